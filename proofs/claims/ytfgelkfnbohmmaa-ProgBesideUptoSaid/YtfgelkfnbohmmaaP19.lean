/- simplify.unfolded: what it gives, in one. -/
import Derived.Laws.EntriesVeiled
import Derived.Test.YtfgelkfnbohmmaaP17
import Derived.Test.YtfgelkfnbohmmaaP18
namespace Go.Proofs.Ytfgelkfnbohmmaa
open Go.RowKit Go.Proofs.Ytfgelkfnbohmmaa.Tr
theorem unfoldedT_any (B : Nat) (y t : Ta) (w : World) (hy : RT w (Fr B [] w) y) (hB : B ≤ w.heap.size) (hal : allB y.tr = true) (h0 : 0 ≤ t.tr.mn) (h1 : t.tr.mn ≤ 1000) (hx : t.tr.mx ≤ 1000) (hsy : size y.tr ≤ 200000) (hs : size (unfoldS y.tr t.tr.mn t.tr.mx t.tr.lz) ≤ 200000) :
    Calls Try.prog 69 #[y.val, t.val] w fun e w' => ∃ u : Ta, e = .returned u.val ∧ u.tr = unfoldS y.tr t.tr.mn t.tr.mx t.tr.lz ∧ RT w' (Fr B [] w') u ∧ Below w.heap.size w w' := by
  have hp : (putT y.tr).length ≤ 200000 := by
    have := size_pos y.tr
    unfold putT
    by_cases k1 : y.tr.kind = 1
    · rw [if_pos k1]; simp
    · by_cases k4 : y.tr.kind = 4
      · rw [if_neg k1, if_pos k4]
        have h2 := len_sizes y.tr.subs
        have h3 : sizes y.tr.subs + 1 = size y.tr := by cases y.tr with | mk k r a l n m z i s => rw [size]; rfl
        omega
      · rw [if_neg k1, if_neg k4]; simp
  cases t with
  | mk k r ra rc ast l sa sc mn mx z ix nm =>
  simp only [Ta.tr, Tr.mn, Tr.mx, Tr.lz] at h0 h1 hx hs ⊢
  unfold unfoldS at hs ⊢
  by_cases hm : mx < 0
  · by_cases hz : mn = 0
    · rw [if_pos ⟨hm, hz⟩]
      exact unfT_star B y k r ra rc ast l sa sc mn mx z ix nm w hy hB hm (by rw [hz]; rfl)
    · rw [if_neg (fun h => hz h.2), if_pos hm] at hs ⊢
      refine unfT_plus B y k r ra rc ast l sa sc mn mx z ix nm w hy hB hal hm (beq_eq_false_iff_ne.2 hz) h0 h1 ?_
      have h2 := row_len (repsT (putT y.tr) (mn - 1).toNat ++ putT (repT y.tr 1 (-1) z))
      rw [List.length_append, reps_len] at h2
      have h3 : size (row (repsT (putT y.tr) (mn - 1).toNat ++ putT (repT y.tr 1 (-1) z))) ≤ 200000 := hs
      rw [Nat.add_mul, Nat.one_mul]
      omega
  · rw [if_neg (fun h => hm h.1), if_neg hm] at hs ⊢
    refine unfT_opt B y k r ra rc ast l sa sc mn mx z ix nm w hy hB hal (by omega) hx h0 h1 ?_
    have h2 := row_len (repsT (putT y.tr) mn.toNat ++ putT (optS y.tr z (mx - mn).toNat))
    rw [List.length_append, reps_len] at h2
    have h3 : size (row (repsT (putT y.tr) mn.toNat ++ putT (optS y.tr z (mx - mn).toNat))) ≤ 200000 := hs
    rw [Nat.add_mul, Nat.one_mul]
    omega
end Go.Proofs.Ytfgelkfnbohmmaa
namespace Go.Proofs.Ytfgelkfnbohmmaa
open Go.RowKit Go.Proofs.Ytfgelkfnbohmmaa.Tr
/-- The cells in which build and each stand. -/
def CEL (bc ec : Nat) (w : World) : Prop := w.cell? ⟨bc, 0, none⟩ = some (.func (Fn.func 65) #[] #[.pointer (some ⟨bc, 0, none⟩), .pointer (some ⟨ec, 0, none⟩)]) ∧ w.cell? ⟨ec, 0, none⟩ = some (.func (Fn.func 64) #[] #[.pointer (some ⟨bc, 0, none⟩)])
theorem CEL.lt {bc ec : Nat} {w : World} (h : CEL bc ec w) : bc < w.heap.size ∧ ec < w.heap.size := ⟨World.block_lt_of_cell? w _ h.1, World.block_lt_of_cell? w _ h.2⟩
theorem CEL.below {bc ec B : Nat} {w w' : World} (h : CEL bc ec w) (hb : Below B w w') (h1 : bc < B) (h2 : ec < B) : CEL bc ec w' :=
  ⟨(hb.cell (p := ⟨bc, 0, none⟩) h1).trans h.1, (hb.cell (p := ⟨ec, 0, none⟩) h2).trans h.2⟩
/-- build gives the simple form, in memory of its own. -/
def BD (t : Ta) : Prop := ∀ (S : Nat → Prop) (w : World) (bc ec : Nat), RT w S t → (∀ b, S b → b < w.heap.size) → CEL bc ec w → allB t.tr = true → size (simpleS t.tr) ≤ 200000 →
    Calls Try.prog 65 #[t.val, .pointer (some ⟨bc, 0, none⟩), .pointer (some ⟨ec, 0, none⟩)] w fun e w' => ∃ u : Ta, e = .returned u.val ∧ u.tr = simpleS t.tr ∧ RT w' (Fr w.heap.size [] w') u ∧ Below w.heap.size w w'
/-- What a row's members put. -/
def putsT (l : List Tr.Tr) : List Tr.Tr := (l.map simpleS).flatMap putT
theorem putsT_append (a b : List Tr.Tr) : putsT (a ++ b) = putsT a ++ putsT b := by unfold putsT; rw [List.map_append, List.flatMap_append]
theorem putsT_one (t : Tr.Tr) : putsT [t] = putT (simpleS t) := by simp [putsT]
theorem take_trs {l : List Ta} {i : Nat} {u : Ta} (hu : l[i]? = some u) : trs (l.take (i + 1)) = trs (l.take i) ++ [u.tr] := by
  rw [List.take_add_one, hu, trs_map, trs_map, List.map_append]; rfl
theorem putsT_le (l : List Ta) (i : Nat) : (putsT (trs (l.take i))).length ≤ (putsT (trs l)).length := by
  have : trs l = trs (l.take i) ++ trs (l.drop i) := by rw [← trs_append, List.take_append_drop]
  rw [this, putsT_append, List.length_append]; omega
/-- What alternatives put. -/
def altsT (l : List Tr.Tr) : List Tr.Tr := (l.map simpleS).flatMap altPut
theorem altsT_append (a b : List Tr.Tr) : altsT (a ++ b) = altsT a ++ altsT b := by unfold altsT; rw [List.map_append, List.flatMap_append]
theorem altsT_one (t : Tr.Tr) : altsT [t] = altPut (simpleS t) := by simp [altsT]
theorem altsT_le (l : List Ta) (i : Nat) : (altsT (trs (l.take i))).length ≤ (altsT (trs l)).length := by
  have : trs l = trs (l.take i) ++ trs (l.drop i) := by rw [← trs_append, List.take_append_drop]
  rw [this, altsT_append, List.length_append]; omega
theorem subs_pos5 {t : Tr.Tr} (h : allB t = true) (hk : t.kind = 5) : 2 ≤ t.subs.length := by
  cases kinds h with
  | cat l hc hs => simp [catT, Tr.kind] at hk
  | empty => simp [emptyT, Tr.kind] at hk
  | cls r hr => simp [Tr.kind] at hk
  | ass a ha => simp [Tr.kind] at hk
  | alt l hc hs => exact hc
  | rep x n m z hx h0 hb hm => simp [repT, Tr.kind] at hk
  | group x i s hx h0 hb hm => simp [groupT, Tr.kind] at hk
end Go.Proofs.Ytfgelkfnbohmmaa
namespace Go.Proofs.Ytfgelkfnbohmmaa
open Go.RowKit Go.Proofs.Ytfgelkfnbohmmaa.Tr
set_option maxRecDepth 100000 in
set_option maxHeartbeats 2000000 in
theorem each_put (l : List Ta) (ih : ∀ u ∈ l, BD u) (S : Nat → Prop) (B Bo : Nat) (X : List Nat) (rb : Nat) (v0 : Value) (A : Option Addr) (c : Nat) (w : World) (bc ec : Nat)
    (hN : RdA w S 9 A l.length c (rowT l)) (hL : ∀ u ∈ l, RT w S u) (hS : ∀ b, S b → b < rb) (hrow : RowV B Bo X rb 122 f1 v0 [] w) (hB : B ≤ rb) (hBo : Bo ≤ w.heap.size) (hrB : rb ≤ Bo) (hX : ∀ x ∈ X, x < w.heap.size) (hcel : CEL bc ec w) (hbc : bc < rb) (hec : ec < rb) (hll : l.length ≤ 1048576)
    (hal : ∀ u ∈ l, allB u.tr = true) (hsz : ∀ u ∈ l, size (simpleS u.tr) ≤ 200000) (hp : (putsT (trs l)).length ≤ 200000) :
    Calls Try.prog 64 #[.slice A l.length c, (.func (Fn.func 66) #[.pointer (some ⟨rb, 0, none⟩)] #[]), .pointer (some ⟨bc, 0, none⟩)] w fun e w' => e = .returned (.tuple #[]) ∧ ∃ (v : Value) (us : List Ta), RowV B Bo X rb 122 f1 v us w' ∧ trs us = putsT (trs l) ∧ Below rb w w' := by
  have hsc := hN.1
  have hsc2 := hN.2.1
  have HIH := Lib.hid ih
  have HN := Lib.hid hN
  have HL := Lib.hid hL
  have HSS := Lib.hid hS
  have HROW := Lib.hid hrow
  have HX := Lib.hid hX
  have HCEL := Lib.hid hcel
  have HAL := Lib.hid hal
  have HSZ := Lib.hid hsz
  have HP := Lib.hid hp
  have hrw := hrow.blk.lt
  clear ih hN hL hS hrow hX hcel hal hsz hp
  go_enter Try.func64, Try.ntmps64
  go_wp2_with fail
  go_loopw [9] (fun iv wr => ∃ (i : Nat) (v : Value) (us : List Ta), i ≤ l.length ∧ iv = .int .i64 (i : Int) ∧ trs us = putsT (trs (l.take i)) ∧ RowV B Bo X rb 122 f1 v us wr ∧ Below rb w wr) (fun iv _ => l.length - (intOf iv).toNat)
  case atStart => exact ⟨0, v0, [], Nat.zero_le _, rfl, rfl, HROW.out, Below.refl _ _⟩
  case round =>
    obtain ⟨i, v, us, hi, rfl, htu, hr, hb⟩ := hrel
    have HR := Lib.hid hr
    have HTU := Lib.hid htu
    have HB := Lib.hid hb
    have hLN : us.length ≤ 200000 := by rw [← trs_length, htu]; exact Nat.le_trans (putsT_le l i) HP.out
    have hrwr := hr.blk.lt
    have hwwr := hb.size
    clear hr htu hb
    by_cases hlt : i < l.length
    · have hlt2 : (i : Int) < (l.length : Int) := by omega
      obtain ⟨b, off, rfl, hSb, _⟩ := HN.out.2.2.2.2 (by omega)
      obtain ⟨u, hu⟩ : ∃ u, l[i]? = some u := ⟨_, List.getElem?_eq_getElem hlt⟩
      have hum : u ∈ l := List.mem_of_getElem? hu
      have hcell : ∀ j, j < 9 → wr.cell? ⟨b, off + i * 9 + j, none⟩ = u.vals[j]? := fun j hj => by
        rw [Nat.add_assoc]
        rw [← HN.out.node hu hj]
        exact (HB.out.cell (p := ⟨b, off + (i * 9 + j), none⟩) (HSS.out b hSb))
      have hba : Below wr.heap.size wr (wr.alloc (.cells u.vals.toArray 25)) := (Below.refl _ _).alloc (Nat.le_refl _) _
      have hBA : Below rb w (wr.alloc (.cells u.vals.toArray 25)) := HB.out.trans (hba.mono (Nat.le_of_lt hrwr))
      have hcela := HCEL.out.below hBA hbc hec
      have hRK := HIH.out u hum S (wr.alloc (.cells u.vals.toArray 25)) bc ec ((HL.out u hum).below HSS.out hBA) (fun b hb => Nat.lt_of_lt_of_le (HSS.out b hb) (Nat.le_trans (Nat.le_of_lt hrwr) hba.size)) hcela (HAL.out u hum) (HSZ.out u hum)
      have HGOOD := Lib.hid (simple_good _ (HAL.out u hum)).1
      have HTK := Lib.hid (take_trs hu)
      have HWA := Lib.hid hba
      have HBA := Lib.hid hBA
      have ecell : (wr.alloc (.cells u.vals.toArray 25)).cell? ⟨bc, 0, none⟩ = some (.func (Fn.func 65) #[] #[.pointer (some ⟨bc, 0, none⟩), .pointer (some ⟨ec, 0, none⟩)]) := hcela.1
      clear hba hBA hcela hu hum
      obtain ⟨st, hst⟩ : ∃ q, q = simpleS u.tr := ⟨_, rfl⟩
      obtain ⟨ut, hut⟩ : ∃ q, q = u.tr := ⟨_, rfl⟩
      rw [← hst] at hRK HGOOD
      rw [← hut] at HTK hst
      have HST := Lib.hid hst
      clear hst hut
      cases u with
      | mk k' r' ra' rc' a' l' sa' sc' n' m' z' i' s' =>
      simp only [Ta.vals] at hcell HWA HBA ecell
      simp only [Ta.val, Ta.vals] at hRK
      have c0 := hcell 0 (by omega)
      have c1 := hcell 1 (by omega)
      have c2 := hcell 2 (by omega)
      have c3 := hcell 3 (by omega)
      have c4 := hcell 4 (by omega)
      have c5 := hcell 5 (by omega)
      have c6 := hcell 6 (by omega)
      have c7 := hcell 7 (by omega)
      have c8 := hcell 8 (by omega)
      simp only [List.getElem?_cons_zero, List.getElem?_cons_succ, Nat.add_zero] at c0 c1 c2 c3 c4 c5 c6 c7 c8
      have HIN := Lib.hid hRK
      clear hcell hRK
      go_wp2_with fail
      refine HIN.out.mono ?_
      rintro e w5 ⟨u5, rfl, htr5, hrt5, hb5⟩
      have hbr5 := HWA.out.trans (hb5.mono HWA.out.size)
      have hs5 := hbr5.size
      have HR5 := Lib.hid (show RowV B Bo X rb 122 f1 v us w5 from ⟨HR.out.blk.below hbr5 HR.out.blk.lt, own_below HR.out.own hbr5, fun q hq => (HR.out.els q hq).fr_below hbr5, HR.out.sep⟩)
      have HRT5 := Lib.hid (hrt5.fr_in (B := B) (L := X ++ rb :: v.ownBlock.toList) (by have := HWA.out.size; omega) (by
        have := HWA.out.size
        intro x hx
        rcases List.mem_append.1 hx with hx | hx
        · have := HX.out x hx; omega
        · rcases List.mem_cons.1 hx with rfl | hx
          · omega
          · have := (HR.out.own.lt x (by simpa using hx)).2; omega))
      have HB5 := Lib.hid (HB.out.trans (hbr5.mono (Nat.le_of_lt hrwr)))
      have HTR5 := Lib.hid htr5
      clear hbr5 hb5 htr5 hrt5 c0 c1 c2 c3 c4 c5 c6 c7 c8 ecell HIN
      obtain ⟨k2, r2, ra2, rc2, a2, l2, sa2, sc2, n2, m2, z2, i2, s2⟩ := u5
      simp only []
      go_wp2_with fail
      refine (put_any B Bo X rb v us (Ta.mk k2 r2 ra2 rc2 a2 l2 sa2 sc2 n2 m2 z2 i2 s2) w5 HR5.out HRT5.out (by omega) (by omega) (fun hk => by rw [Ta.subs_len, HTR5.out]; rw [HTR5.out] at hk; have := subs_pos HGOOD.out hk; omega)).mono ?_
      rintro e w6 ⟨rfl, v6, hrow6, hk6, hv6⟩
      have HR6 := Lib.hid hrow6
      have HB6 := Lib.hid (Below.kept HB5.out hk6 (by
        intro x hx
        rcases List.mem_cons.1 hx with rfl | hx
        · exact Nat.le_refl _
        · have := (HR.out.own.lt x (by simpa using hx)).1; omega) (by omega))
      clear hrow6 hk6 hv6
      simp only []
      go_wp2_with fail
      go_roundw
      case rel => exact ⟨i + 1, v6, _, by omega, by go_num, by rw [trs_append, putA_tr, HTU.out, HTR5.out, HTK.out, putsT_append, putsT_one, HST.out], HR6.out, HB6.out⟩
      case measure => simp [intOf]; omega
    · obtain rfl : i = l.length := by omega
      have hlt2 : ¬ ((l.length : Int) < (l.length : Int)) := by omega
      go_wp2_with fail
      go_end0
      exact ⟨rfl, v, us, HR.out, by rw [HTU.out, List.take_length], HB.out⟩
end Go.Proofs.Ytfgelkfnbohmmaa
