/- simplify.unfolded: a repeat with a top is unfolded. -/
import Derived.Test.YtfgelkfnbohmmaaP16
namespace Go.Proofs.Ytfgelkfnbohmmaa
open Go.RowKit Go.Proofs.Ytfgelkfnbohmmaa.Tr
set_option maxRecDepth 100000 in
set_option maxHeartbeats 2000000 in
theorem unfT_opt (B : Nat) (y : Ta) (k : Int) (r : List (Int × Int)) (ra : Option Addr) (rc : Nat) (ast : Int) (l : List Ta) (sa : Option Addr) (sc : Nat) (mn mx : Int) (z : Bool) (ix : Int) (nm : ByteArray) (w : World) (hy : RT w (Fr B [] w) y) (hB : B ≤ w.heap.size) (hal : allB y.tr = true) (hm : 0 ≤ mx) (hmx : mx ≤ 1000) (hmn : 0 ≤ mn) (hmn1 : mn ≤ 1000) (hsz : (mn.toNat + 1) * (putT y.tr).length ≤ 1000000) :
    Calls Try.prog 69 #[y.val, (Ta.mk k r ra rc ast l sa sc mn mx z ix nm).val] w fun e w' => ∃ u : Ta, e = .returned u.val ∧ u.tr = row (repsT (putT y.tr) mn.toNat ++ putT (optS y.tr z (mx - mn).toNat)) ∧ RT w' (Fr B [] w') u ∧ Below w.heap.size w w' := by
  have hus := us_start B y (Ta.mk k r ra rc ast l sa sc mn mx z ix nm) w hy hB rfl
  obtain ⟨nn, hnn⟩ : ∃ nn : Nat, mn = (nn : Int) := ⟨mn.toNat, by omega⟩
  have hnt : mn.toNat = nn := by omega
  rw [hnt] at hsz ⊢
  obtain ⟨n2, hn2⟩ : ∃ n2 : Nat, (mx - mn).toNat = n2 := ⟨_, rfl⟩
  rw [hn2]
  have hm0 : ¬ mx < 0 := by omega
  have hdf : ∀ j : Nat, ((j : Int) < mx - mn) ↔ j < n2 := fun j => by omega
  have HDF := Lib.hid hdf
  have HN2 := Lib.hid hn2
  have HNN := Lib.hid hnn
  clear hnt hy hdf hn2 hnn
  have HUS := Lib.hid hus
  clear hus
  cases y with
  | mk k' r' ra' rc' a' l' sa' sc' n' m' z' i' s' =>
  simp only [Ta.vals] at HUS
  simp only [Ta.val, Ta.vals]
  have t4 : ((((w.alloc (.cells #[.int .i64 k', .slice ra' r'.length rc', .int .i64 a', .slice sa' l'.length sc', .int .i64 n', .int .i64 m', .bool z', .int .i64 i', .string s'] 25)).alloc (.cells #[.int .i64 k, .slice ra r.length rc, .int .i64 ast, .slice sa l.length sc, .int .i64 mn, .int .i64 mx, .bool z, .int .i64 ix, .string nm] 25)).alloc (.cells #[.int .i64 0, .slice none 0 0, .int .i64 0, .slice none 0 0, .int .i64 0, .int .i64 0, .bool false, .int .i64 0, .string ⟨#[]⟩] 25)).alloc (.cells #[.slice none 0 0] 122)).cell? ⟨w.heap.size + 1, 4, none⟩ = some (.int .i64 mn) := HUS.out.tb.cell 4
  have t5 : ((((w.alloc (.cells #[.int .i64 k', .slice ra' r'.length rc', .int .i64 a', .slice sa' l'.length sc', .int .i64 n', .int .i64 m', .bool z', .int .i64 i', .string s'] 25)).alloc (.cells #[.int .i64 k, .slice ra r.length rc, .int .i64 ast, .slice sa l.length sc, .int .i64 mn, .int .i64 mx, .bool z, .int .i64 ix, .string nm] 25)).alloc (.cells #[.int .i64 0, .slice none 0 0, .int .i64 0, .slice none 0 0, .int .i64 0, .int .i64 0, .bool false, .int .i64 0, .string ⟨#[]⟩] 25)).alloc (.cells #[.slice none 0 0] 122)).cell? ⟨w.heap.size + 1, 5, none⟩ = some (.int .i64 mx) := HUS.out.tb.cell 5
  go_enter Try.func69, Try.ntmps69
  go_wp2_with fail
  generalize ((((w.alloc (.cells #[.int .i64 k', .slice ra' r'.length rc', .int .i64 a', .slice sa' l'.length sc', .int .i64 n', .int .i64 m', .bool z', .int .i64 i', .string s'] 25)).alloc (.cells #[.int .i64 k, .slice ra r.length rc, .int .i64 ast, .slice sa l.length sc, .int .i64 mn, .int .i64 mx, .bool z, .int .i64 ix, .string nm] 25)).alloc (.cells #[.int .i64 0, .slice none 0 0, .int .i64 0, .slice none 0 0, .int .i64 0, .int .i64 0, .bool false, .int .i64 0, .string ⟨#[]⟩] 25)).alloc (.cells #[.slice none 0 0] 122)) = w4 at *
  have HAL := Lib.hid hal
  have HSZ := Lib.hid hsz
  clear t4 t5 hal hsz
  go_loopw [12] (fun iv wr => ∃ (j : Nat) (v : Value) (us : List Ta), j ≤ nn ∧ iv = .int .i64 (j : Int) ∧ trs us = repsT (putT (Ta.mk k' r' ra' rc' a' l' sa' sc' n' m' z' i' s').tr) j ∧ US B [] w (Ta.mk k' r' ra' rc' a' l' sa' sc' n' m' z' i' s') (Ta.mk k r ra rc ast l sa sc mn mx z ix nm) v us wr) (fun iv _ => nn - (intOf iv).toNat)
  case atStart => exact ⟨0, _, [], Nat.zero_le _, rfl, rfl, HUS.out⟩
  case round =>
    obtain ⟨j, v, us, hj, rfl, htu, hr⟩ := hrel
    have HR := Lib.hid hr
    have HTU := Lib.hid htu
    have HLN := Lib.hid (show us.length ≤ 1000000 from by rw [← trs_length, HTU.out, reps_len]; exact Nat.le_trans (Nat.mul_le_mul_right _ (show j ≤ nn + 1 by omega)) HSZ.out)
    clear hr htu
    by_cases hlt : j < nn
    · have hlt2 : (j : Int) < mn := by have := HNN.out; omega
      have y0 : wr.cell? ⟨w.heap.size, 0, none⟩ = some (.int .i64 k') := HR.out.yb.cell 0
      have y1 : wr.cell? ⟨w.heap.size, 1, none⟩ = some (.slice ra' r'.length rc') := HR.out.yb.cell 1
      have y2 : wr.cell? ⟨w.heap.size, 2, none⟩ = some (.int .i64 a') := HR.out.yb.cell 2
      have y3 : wr.cell? ⟨w.heap.size, 3, none⟩ = some (.slice sa' l'.length sc') := HR.out.yb.cell 3
      have y4 : wr.cell? ⟨w.heap.size, 4, none⟩ = some (.int .i64 n') := HR.out.yb.cell 4
      have y5 : wr.cell? ⟨w.heap.size, 5, none⟩ = some (.int .i64 m') := HR.out.yb.cell 5
      have y6 : wr.cell? ⟨w.heap.size, 6, none⟩ = some (.bool z') := HR.out.yb.cell 6
      have y7 : wr.cell? ⟨w.heap.size, 7, none⟩ = some (.int .i64 i') := HR.out.yb.cell 7
      have y8 : wr.cell? ⟨w.heap.size, 8, none⟩ = some (.string s') := HR.out.yb.cell 8
      go_wp2_with fail
      refine (copied_any (Ta.mk k' r' ra' rc' a' l' sa' sc' n' m' z' i' s') (Fr B (((w.heap.size + 1 + 1) :: []) ++ (w.heap.size + 1 + 1 + 1) :: v.ownBlock.toList) wr) wr HR.out.yt (fun b hb => hb.2.1)).mono ?_
      rintro e w5 ⟨u5, rfl, htr5, hrt5, hb5⟩
      have HR5 := Lib.hid (HR.out.bel hb5)
      have HRT5 := Lib.hid (hrt5.fr_in (B := B) (L := ((w.heap.size + 1 + 1) :: []) ++ (w.heap.size + 1 + 1 + 1) :: v.ownBlock.toList) (Nat.le_trans hB HR.out.below.size) (us_lt HR.out))
      have HTR := Lib.hid htr5
      have HB5 := Lib.hid hb5
      clear htr5 hrt5 hb5
      clear y0 y1 y2 y3 y4 y5 y6 y7 y8
      simp only []
      go_wp2_with fail
      refine (put_any B (w.heap.size + 1 + 1 + 1 + 1) ((w.heap.size + 1 + 1) :: []) (w.heap.size + 1 + 1 + 1) v us u5 w5 HR5.out.row HRT5.out HR5.out.row.blk.lt (Nat.le_trans HLN.out (by decide)) (fun hk => by rw [Ta.subs_len, HTR.out]; rw [HTR.out] at hk; have := subs_pos HAL.out hk; omega)).mono ?_
      rintro e w6 ⟨rfl, v6, hrow6, hk6, hv6⟩
      have HR6 := Lib.hid (HR5.out.put hrow6 hk6 hv6)
      clear hrow6 hk6 hv6
      simp only []
      go_wp2_with fail
      go_roundw
      case rel => exact ⟨j + 1, _, _, by omega, by go_num, by rw [trs_append, putA_tr, HTU.out, HTR.out, reps_succ], HR6.out⟩
      case measure => simp [intOf]; omega
    · obtain rfl : j = nn := by omega
      have hlt2 : ¬ ((j : Int) < mn) := by have := HNN.out; omega
      have hba : Below wr.heap.size wr (wr.alloc (.cells #[.int .i64 1, .slice none 0 0, .int .i64 0, .slice none 0 0, .int .i64 0, .int .i64 0, .bool false, .int .i64 0, .string ⟨#[]⟩] 25)) := (Below.refl _ _).alloc (Nat.le_refl _) _
      have HO := Lib.hid (HR.out.more (g := wr.heap.size) hba (Nat.le_refl _) (by simp))
      have HOB := Lib.hid (Blk.new wr 25 [.int .i64 1, .slice none 0 0, .int .i64 0, .slice none 0 0, .int .i64 0, .int .i64 0, .bool false, .int .i64 0, .string ⟨#[]⟩])
      have HB3 := Lib.hid HR.out.row.blk.lt
      have t4 : (wr.alloc (.cells #[.int .i64 1, .slice none 0 0, .int .i64 0, .slice none 0 0, .int .i64 0, .int .i64 0, .bool false, .int .i64 0, .string ⟨#[]⟩] 25)).cell? ⟨w.heap.size + 1, 4, none⟩ = some (.int .i64 mn) := HO.out.tb.cell 4
      have t5 : (wr.alloc (.cells #[.int .i64 1, .slice none 0 0, .int .i64 0, .slice none 0 0, .int .i64 0, .int .i64 0, .bool false, .int .i64 0, .string ⟨#[]⟩] 25)).cell? ⟨w.heap.size + 1, 5, none⟩ = some (.int .i64 mx) := HO.out.tb.cell 5
      clear hba
      go_wp2_with fail
      clear t4 t5
      generalize wr.alloc (.cells #[.int .i64 1, .slice none 0 0, .int .i64 0, .slice none 0 0, .int .i64 0, .int .i64 0, .bool false, .int .i64 0, .string ⟨#[]⟩] 25) = wo at *
      clear HR hlt hlt2 hj
      generalize wr.heap.size = ob at *
      have hoB := (HO.out.xs ob (by simp)).1
      go_loopw [24] (fun iv wq => ∃ (jj : Nat) (o : Ta), jj ≤ n2 ∧ iv = .int .i64 (jj : Int) ∧ o.tr = optS (Ta.mk k' r' ra' rc' a' l' sa' sc' n' m' z' i' s').tr z jj ∧ Blk wq ob 25 o.vals ∧ RT wq (Fr B ([w.heap.size + 1 + 1, ob] ++ (w.heap.size + 1 + 1 + 1) :: v.ownBlock.toList) wq) o ∧ US B [ob] w (Ta.mk k' r' ra' rc' a' l' sa' sc' n' m' z' i' s') (Ta.mk k r ra rc ast l sa sc mn mx z ix nm) v us wq) (fun iv _ => n2 - (intOf iv).toNat)
      case atStart => exact ⟨0, Ta.mk 1 [] none 0 0 [] none 0 0 0 false 0 ⟨#[]⟩, Nat.zero_le _, rfl, rfl, HOB.out, RT.of ⟨RdA.none_, by simp, by simp, by decide⟩ RdA.none_ (by simp), HO.out⟩
      case round =>
        obtain ⟨jj, o, hi2, rfl, hot, hob, hor, hu⟩ := hrel
        have HU := Lib.hid hu
        have HOT := Lib.hid hot
        have HOBK := Lib.hid hob
        have HOR := Lib.hid hor
        clear hu hot hob hor
        by_cases hlt : jj < n2
        · have hlt2 : (jj : Int) < mx - mn := (HDF.out jj).2 hlt
          have hba : Below wr.heap.size wr (wr.alloc (.cells #[.slice none 0 0] 122)) := (Below.refl _ _).alloc (Nat.le_refl _) _
          have HUI := Lib.hid (HU.out.bel hba)
          have HRI := Lib.hid (show RowV B (wr.heap.size + 1) ([w.heap.size + 1 + 1, ob] ++ (w.heap.size + 1 + 1 + 1) :: v.ownBlock.toList) wr.heap.size 122 f1 (.slice none 0 0) [] (wr.alloc (.cells #[.slice none 0 0] 122)) from ⟨Blk.new wr 122 [.slice none 0 0], World.ownsRow_nil _ _ _ _, by simp, by simp [Value.ownBlock]⟩)
          have HBI := Lib.hid hba
          have hsi : (wr.alloc (.cells #[.slice none 0 0] 122)).heap.size = wr.heap.size + 1 := by simp
          have HXL := Lib.hid (us_lt HU.out)
          clear hba
          have y0 : (wr.alloc (.cells #[.slice none 0 0] 122)).cell? ⟨w.heap.size, 0, none⟩ = some (.int .i64 k') := HUI.out.yb.cell 0
          have y1 : (wr.alloc (.cells #[.slice none 0 0] 122)).cell? ⟨w.heap.size, 1, none⟩ = some (.slice ra' r'.length rc') := HUI.out.yb.cell 1
          have y2 : (wr.alloc (.cells #[.slice none 0 0] 122)).cell? ⟨w.heap.size, 2, none⟩ = some (.int .i64 a') := HUI.out.yb.cell 2
          have y3 : (wr.alloc (.cells #[.slice none 0 0] 122)).cell? ⟨w.heap.size, 3, none⟩ = some (.slice sa' l'.length sc') := HUI.out.yb.cell 3
          have y4 : (wr.alloc (.cells #[.slice none 0 0] 122)).cell? ⟨w.heap.size, 4, none⟩ = some (.int .i64 n') := HUI.out.yb.cell 4
          have y5 : (wr.alloc (.cells #[.slice none 0 0] 122)).cell? ⟨w.heap.size, 5, none⟩ = some (.int .i64 m') := HUI.out.yb.cell 5
          have y6 : (wr.alloc (.cells #[.slice none 0 0] 122)).cell? ⟨w.heap.size, 6, none⟩ = some (.bool z') := HUI.out.yb.cell 6
          have y7 : (wr.alloc (.cells #[.slice none 0 0] 122)).cell? ⟨w.heap.size, 7, none⟩ = some (.int .i64 i') := HUI.out.yb.cell 7
          have y8 : (wr.alloc (.cells #[.slice none 0 0] 122)).cell? ⟨w.heap.size, 8, none⟩ = some (.string s') := HUI.out.yb.cell 8
          go_wp2_with fail
          generalize (wr.alloc (.cells #[.slice none 0 0] 122)) = wi at *
          refine (copied_any (Ta.mk k' r' ra' rc' a' l' sa' sc' n' m' z' i' s') (Fr B ([w.heap.size + 1 + 1, ob] ++ (w.heap.size + 1 + 1 + 1) :: v.ownBlock.toList) wi) wi HUI.out.yt (fun b hb => hb.2.1)).mono ?_
          rintro e w5 ⟨u5, rfl, htr5, hrt5, hb5⟩
          have hs5 := hb5.size
          have hwB := Nat.le_trans hB HU.out.below.size
          have HRT5 := Lib.hid (hrt5.fr_in (B := B) (L := ([w.heap.size + 1 + 1, ob] ++ (w.heap.size + 1 + 1 + 1) :: v.ownBlock.toList) ++ wr.heap.size :: (Value.slice none 0 0).ownBlock.toList) (by omega) (by intro x hx; rcases List.mem_append.1 hx with hx | hx; have := HXL.out x hx; omega; simp [Value.ownBlock] at hx; omega))
          have HR5 := Lib.hid (show RowV B (wr.heap.size + 1) ([w.heap.size + 1 + 1, ob] ++ (w.heap.size + 1 + 1 + 1) :: v.ownBlock.toList) wr.heap.size 122 f1 (.slice none 0 0) [] w5 from ⟨HRI.out.blk.below hb5 HRI.out.blk.lt, World.ownsRow_nil _ _ _ _, by simp, by simp [Value.ownBlock]⟩)
          have HB5 := Lib.hid (HBI.out.trans (hb5.mono (by omega)))
          have HTR5 := Lib.hid htr5
          clear hb5 hrt5 htr5 HUI HRI HBI y0 y1 y2 y3 y4 y5 y6 y7 y8
          simp only []
          go_wp2_with fail
          refine (put_any B (wr.heap.size + 1) ([w.heap.size + 1 + 1, ob] ++ (w.heap.size + 1 + 1 + 1) :: v.ownBlock.toList) wr.heap.size (.slice none 0 0) [] u5 w5 HR5.out HRT5.out HR5.out.blk.lt (by simp) (fun hk => by rw [Ta.subs_len, HTR5.out]; rw [HTR5.out] at hk; have := subs_pos HAL.out hk; omega)).mono ?_
          rintro e w6 ⟨rfl, v6, hrow6, hk6, hv6⟩
          rw [List.nil_append] at hrow6
          have hb6 : Below wr.heap.size wr w6 := Below.kept HB5.out hk6 (by intro x hx; simp [Value.ownBlock] at hx; omega) HB5.out.size
          have hown6 : ∀ g, v6.ownBlock = some g → wr.heap.size < g := fun g hg => (hrow6.own.lt g hg).1
          have HOR6 := Lib.hid (HOR.out.fr_kept (L' := ([w.heap.size + 1 + 1, ob] ++ (w.heap.size + 1 + 1 + 1) :: v.ownBlock.toList) ++ wr.heap.size :: v6.ownBlock.toList) (Kept.of_below (L := []) hb6) (by simp) (by intro x hx; rcases List.mem_append.1 hx with hx | hx; exact .inl hx; rcases List.mem_cons.1 hx with rfl | hx; exact .inr (.inl (Nat.le_refl _)); exact .inr (.inl (Nat.le_of_lt (hown6 x (by simpa using hx))))))
          have HOB6 := Lib.hid (HOBK.out.below hb6 HOBK.out.lt)
          have HR6 := Lib.hid hrow6
          have HB6 := Lib.hid hb6
          have HOWN6 := Lib.hid hown6
          have HL6 := Lib.hid (show (putA u5).length ≤ 1000000 from by rw [putA_len, HTR5.out]; have h1 := HSZ.out; have h2 : (putT (Ta.mk k' r' ra' rc' a' l' sa' sc' n' m' z' i' s').tr).length ≤ (j + 1) * (putT (Ta.mk k' r' ra' rc' a' l' sa' sc' n' m' z' i' s').tr).length := Nat.le_mul_of_pos_left _ (by omega); omega)
          clear hrow6 hk6 hv6 hb6 hown6 HR5 HRT5 HB5
          cases o with
          | mk k3 r3 ra3 rc3 a3 l3 sa3 sc3 n3 m3 z3 i3 s3 =>
          simp only [Ta.vals] at HOB6
          have o0 : w6.cell? ⟨ob, 0, none⟩ = some (.int .i64 k3) := HOB6.out.cell 0
          have o1 : w6.cell? ⟨ob, 1, none⟩ = some (.slice ra3 r3.length rc3) := HOB6.out.cell 1
          have o2 : w6.cell? ⟨ob, 2, none⟩ = some (.int .i64 a3) := HOB6.out.cell 2
          have o3 : w6.cell? ⟨ob, 3, none⟩ = some (.slice sa3 l3.length sc3) := HOB6.out.cell 3
          have o4 : w6.cell? ⟨ob, 4, none⟩ = some (.int .i64 n3) := HOB6.out.cell 4
          have o5 : w6.cell? ⟨ob, 5, none⟩ = some (.int .i64 m3) := HOB6.out.cell 5
          have o6 : w6.cell? ⟨ob, 6, none⟩ = some (.bool z3) := HOB6.out.cell 6
          have o7 : w6.cell? ⟨ob, 7, none⟩ = some (.int .i64 i3) := HOB6.out.cell 7
          have o8 : w6.cell? ⟨ob, 8, none⟩ = some (.string s3) := HOB6.out.cell 8
          simp only []
          go_wp2_with fail
          refine (put_any B (wr.heap.size + 1) ([w.heap.size + 1 + 1, ob] ++ (w.heap.size + 1 + 1 + 1) :: v.ownBlock.toList) wr.heap.size v6 (putA u5) (Ta.mk k3 r3 ra3 rc3 a3 l3 sa3 sc3 n3 m3 z3 i3 s3) w6 HR6.out HOR6.out HR6.out.blk.lt (Nat.le_trans HL6.out (by decide)) (fun hk => by rw [HOT.out] at hk; cases jj <;> simp [optS, emptyT, repT, Tr.kind] at hk)).mono ?_
          rintro e w7 ⟨rfl, v7, hrow7, hk7, hv7⟩
          have hb7 : Below wr.heap.size wr w7 := Below.kept HB6.out hk7 (by intro x hx; rcases List.mem_cons.1 hx with rfl | hx; exact Nat.le_refl _; exact Nat.le_of_lt (HOWN6.out x (by simpa using hx))) HB6.out.size
          have HR7 := Lib.hid hrow7
          have HB7 := Lib.hid hb7
          have HL7 := Lib.hid (show (putA u5 ++ putA (Ta.mk k3 r3 ra3 rc3 a3 l3 sa3 sc3 n3 m3 z3 i3 s3)).length ≤ 1048576 from by rw [List.length_append]; have h1 := HL6.out; have h2 : (putA (Ta.mk k3 r3 ra3 rc3 a3 l3 sa3 sc3 n3 m3 z3 i3 s3)).length ≤ 1 := (by rw [putA_len, HOT.out]; cases jj <;> simp [optS, emptyT, repT, Tr.kind, putT]); omega)
          clear hrow7 hk7 hv7 hb7 HR6 HB6 HOB6 HOR6 o0 o1 o2 o3 o4 o5 o6 o7 o8
          simp only []
          go_wp2_with fail
          refine (tree_any B (wr.heap.size + 1) ([w.heap.size + 1 + 1, ob] ++ (w.heap.size + 1 + 1 + 1) :: v.ownBlock.toList) wr.heap.size v7 (putA u5 ++ putA (Ta.mk k3 r3 ra3 rc3 a3 l3 sa3 sc3 n3 m3 z3 i3 s3)) w7 HR7.out (by omega) (by intro x hx; have := HXL.out x hx; omega) HL7.out).mono ?_
          rintro e w8 ⟨u8, rfl, htr8, hrt8, hb8⟩
          have hlt7 := HR7.out.blk.lt
          have hlt78 := hb8.size
          have hb78 := HB7.out.trans (hb8.mono HB7.out.size)
          have HB8 := Lib.hid hb78
          have HU8 := Lib.hid (HU.out.bel hb78)
          have HRT8 := Lib.hid hrt8
          have HTR8 := Lib.hid (htr8.trans (by rw [trs_append, putA_tr, putA_tr, HTR5.out, HOT.out]))
          clear htr8 hrt8 hb8 hb78 HR7 HB7
          simp only []
          go_wp2_with fail
          have hz : w8.cell? ⟨w.heap.size + 1, 6, none⟩ = some (.bool z) := HU8.out.tb.cell 6
          have hlt8 := HB8.out.size
          refine (rep_any B (([w.heap.size + 1 + 1, ob] ++ (w.heap.size + 1 + 1 + 1) :: v.ownBlock.toList) ++ [wr.heap.size]) u8 (w.heap.size + 1) 0 1 z w8 hz HRT8.out (by omega) (by have h0 := (show wr.heap.size < w8.heap.size from by omega); intro x hx; rcases List.mem_append.1 hx with hx | hx; have := HXL.out x hx; omega; simp at hx; omega)).mono ?_
          rintro e w9 ⟨v9, rfl, htr9, hrt9, hb9⟩
          have hb89 := HB8.out.trans (hb9.mono HB8.out.size)
          have HU9 := Lib.hid (HU.out.bel hb89)
          have HOB9 := Lib.hid (HOBK.out.below hb89 HOBK.out.lt)
          have HRT9 := Lib.hid hrt9
          have HTR9 := Lib.hid (htr9.trans (by rw [HTR8.out]))
          clear htr9 hrt9 hb9 hb89 hz HU8 HRT8
          simp only [Ta.vals] at HOB9
          cases v9 with
          | mk k2 r2 ra2 rc2 a2 l2 sa2 sc2 n2 m2 z2 i2 s2 =>
          have q0 : w9.cell? ⟨ob, 0, none⟩ = some (.int .i64 k3) := HOB9.out.cell 0
          have q1 : w9.cell? ⟨ob, 1, none⟩ = some (.slice ra3 r3.length rc3) := HOB9.out.cell 1
          have q2 : w9.cell? ⟨ob, 2, none⟩ = some (.int .i64 a3) := HOB9.out.cell 2
          have q3 : w9.cell? ⟨ob, 3, none⟩ = some (.slice sa3 l3.length sc3) := HOB9.out.cell 3
          have q4 : w9.cell? ⟨ob, 4, none⟩ = some (.int .i64 n3) := HOB9.out.cell 4
          have q5 : w9.cell? ⟨ob, 5, none⟩ = some (.int .i64 m3) := HOB9.out.cell 5
          have q6 : w9.cell? ⟨ob, 6, none⟩ = some (.bool z3) := HOB9.out.cell 6
          have q7 : w9.cell? ⟨ob, 7, none⟩ = some (.int .i64 i3) := HOB9.out.cell 7
          have q8 : w9.cell? ⟨ob, 8, none⟩ = some (.string s3) := HOB9.out.cell 8
          have fz0 := HOB9.out.frozen 0
          have fz1 := HOB9.out.frozen 1
          have fz2 := HOB9.out.frozen 2
          have fz3 := HOB9.out.frozen 3
          have fz4 := HOB9.out.frozen 4
          have fz5 := HOB9.out.frozen 5
          have fz6 := HOB9.out.frozen 6
          have fz7 := HOB9.out.frozen 7
          have fz8 := HOB9.out.frozen 8
          have fz9 := HOB9.out.lt
          simp only [Ta.val, Ta.vals]
          go_wp2_with fail
          go_roundw
          case rel =>
            have hk10 := kept9 w9 ob 0 (.int .i64 k2) (.slice ra2 r2.length rc2) (.int .i64 a2) (.slice sa2 l2.length sc2) (.int .i64 n2) (.int .i64 m2) (.bool z2) (.int .i64 i2) (.string s2)
            refine ⟨jj + 1, Ta.mk k2 r2 ra2 rc2 a2 l2 sa2 sc2 n2 m2 z2 i2 s2, by omega, by go_num, HTR9.out, (show Blk (((((((((w9.setCell ⟨ob, 0, none⟩ (.int .i64 k2)).setCell ⟨ob, 1, none⟩ (.slice ra2 r2.length rc2)).setCell ⟨ob, 2, none⟩ (.int .i64 a2)).setCell ⟨ob, 3, none⟩ (.slice sa2 l2.length sc2)).setCell ⟨ob, 4, none⟩ (.int .i64 n2)).setCell ⟨ob, 5, none⟩ (.int .i64 m2)).setCell ⟨ob, 6, none⟩ (.bool z2)).setCell ⟨ob, 7, none⟩ (.int .i64 i2)).setCell ⟨ob, 8, none⟩ (.string s2)) ob 25 (Ta.mk k2 r2 ra2 rc2 a2 l2 sa2 sc2 n2 m2 z2 i2 s2).vals from (((((((((HOB9.out.set_ 0 (.int .i64 k2)).set_ 1 (.slice ra2 r2.length rc2)).set_ 2 (.int .i64 a2)).set_ 3 (.slice sa2 l2.length sc2)).set_ 4 (.int .i64 n2)).set_ 5 (.int .i64 m2)).set_ 6 (.bool z2)).set_ 7 (.int .i64 i2)).set_ 8 (.string s2))), HRT9.out.fr_kept hk10 (by simp) (fun x hx => .inl (List.mem_append_left _ hx)), HU9.out.setb (by simp) hk10⟩
          case measure => simp [intOf]; omega

        · have hlt2 : ¬ ((jj : Int) < mx - mn) := fun h => hlt ((HDF.out jj).1 h)
          obtain rfl : jj = n2 := by omega
          have HUL := Lib.hid HU.out.less
          have HOL := Lib.hid (HOR.out.fr_less (L' := [w.heap.size + 1 + 1] ++ (w.heap.size + 1 + 1 + 1) :: v.ownBlock.toList) (by intro x hx; simp at hx ⊢; rcases hx with h | h; exact .inl h; exact .inr (.inr h)))
          cases o with
          | mk k3 r3 ra3 rc3 a3 l3 sa3 sc3 n3 m3 z3 i3 s3 =>
          simp only [Ta.vals] at HOBK
          have o0 : wr.cell? ⟨ob, 0, none⟩ = some (.int .i64 k3) := HOBK.out.cell 0
          have o1 : wr.cell? ⟨ob, 1, none⟩ = some (.slice ra3 r3.length rc3) := HOBK.out.cell 1
          have o2 : wr.cell? ⟨ob, 2, none⟩ = some (.int .i64 a3) := HOBK.out.cell 2
          have o3 : wr.cell? ⟨ob, 3, none⟩ = some (.slice sa3 l3.length sc3) := HOBK.out.cell 3
          have o4 : wr.cell? ⟨ob, 4, none⟩ = some (.int .i64 n3) := HOBK.out.cell 4
          have o5 : wr.cell? ⟨ob, 5, none⟩ = some (.int .i64 m3) := HOBK.out.cell 5
          have o6 : wr.cell? ⟨ob, 6, none⟩ = some (.bool z3) := HOBK.out.cell 6
          have o7 : wr.cell? ⟨ob, 7, none⟩ = some (.int .i64 i3) := HOBK.out.cell 7
          have o8 : wr.cell? ⟨ob, 8, none⟩ = some (.string s3) := HOBK.out.cell 8
          go_wp2_with fail
          refine (put_any B (w.heap.size + 1 + 1 + 1 + 1) [w.heap.size + 1 + 1] (w.heap.size + 1 + 1 + 1) v us (Ta.mk k3 r3 ra3 rc3 a3 l3 sa3 sc3 n3 m3 z3 i3 s3) wr HUL.out.row HOL.out HUL.out.row.blk.lt (Nat.le_trans HLN.out (by decide)) (fun hk => by rw [HOT.out] at hk; cases jj <;> simp [optS, emptyT, repT, Tr.kind] at hk)).mono ?_
          rintro e w6 ⟨rfl, v6, hrow6, hk6, hv6⟩
          have HR6 := Lib.hid (HUL.out.put hrow6 hk6 hv6)
          have hl6 : (us ++ putA (Ta.mk k3 r3 ra3 rc3 a3 l3 sa3 sc3 n3 m3 z3 i3 s3)).length ≤ 1048576 := by rw [List.length_append]; have h1 := HLN.out; have h2 : (putA (Ta.mk k3 r3 ra3 rc3 a3 l3 sa3 sc3 n3 m3 z3 i3 s3)).length ≤ 1 := (by rw [putA_len, HOT.out]; cases jj <;> simp [optS, emptyT, repT, Tr.kind, putT]); omega
          clear hrow6 hk6 hv6 o0 o1 o2 o3 o4 o5 o6 o7 o8
          simp only []
          go_wp2_with fail
          refine (tree_any B (w.heap.size + 1 + 1 + 1 + 1) [w.heap.size + 1 + 1] (w.heap.size + 1 + 1 + 1) v6 (us ++ putA (Ta.mk k3 r3 ra3 rc3 a3 l3 sa3 sc3 n3 m3 z3 i3 s3)) w6 HR6.out.row (by omega) (by intro x hx; simp at hx; omega) hl6).mono ?_
          rintro e w7 ⟨u7, rfl, htr7, hrt7, hb7⟩
          have HR7 := Lib.hid (HR6.out.bel hb7)
          have HRT7 := Lib.hid hrt7
          have HTR7 := Lib.hid (htr7.trans (by rw [trs_append, putA_tr, HOT.out, HTU.out]))
          clear hrt7 htr7 hb7 hl6
          cases u7 with
          | mk k2 r2 ra2 rc2 a2 l2 sa2 sc2 n2 m2 z2 i2 s2 =>
          have q0 : w7.cell? ⟨w.heap.size + 1 + 1, 0, none⟩ = some (.int .i64 0) := HR7.out.res.cell 0
          have q1 : w7.cell? ⟨w.heap.size + 1 + 1, 1, none⟩ = some (.slice none 0 0) := HR7.out.res.cell 1
          have q2 : w7.cell? ⟨w.heap.size + 1 + 1, 2, none⟩ = some (.int .i64 0) := HR7.out.res.cell 2
          have q3 : w7.cell? ⟨w.heap.size + 1 + 1, 3, none⟩ = some (.slice none 0 0) := HR7.out.res.cell 3
          have q4 : w7.cell? ⟨w.heap.size + 1 + 1, 4, none⟩ = some (.int .i64 0) := HR7.out.res.cell 4
          have q5 : w7.cell? ⟨w.heap.size + 1 + 1, 5, none⟩ = some (.int .i64 0) := HR7.out.res.cell 5
          have q6 : w7.cell? ⟨w.heap.size + 1 + 1, 6, none⟩ = some (.bool false) := HR7.out.res.cell 6
          have q7 : w7.cell? ⟨w.heap.size + 1 + 1, 7, none⟩ = some (.int .i64 0) := HR7.out.res.cell 7
          have q8 : w7.cell? ⟨w.heap.size + 1 + 1, 8, none⟩ = some (.string ⟨#[]⟩) := HR7.out.res.cell 8
          have fz0 := HR7.out.res.frozen 0
          have fz1 := HR7.out.res.frozen 1
          have fz2 := HR7.out.res.frozen 2
          have fz3 := HR7.out.res.frozen 3
          have fz4 := HR7.out.res.frozen 4
          have fz5 := HR7.out.res.frozen 5
          have fz6 := HR7.out.res.frozen 6
          have fz7 := HR7.out.res.frozen 7
          have fz8 := HR7.out.res.frozen 8
          have fz9 := HR7.out.res.lt
          simp only [Ta.val, Ta.vals]
          go_wp2_with fail
          refine bodyPost_ret (node_ret rfl _ _ (w.heap.size + 1 + 1) (Ta.mk k2 r2 ra2 rc2 a2 l2 sa2 sc2 n2 m2 z2 i2 s2) rfl (show Blk (((((((((w7.setCell ⟨w.heap.size + 1 + 1, 0, none⟩ (.int .i64 k2)).setCell ⟨w.heap.size + 1 + 1, 1, none⟩ (.slice ra2 r2.length rc2)).setCell ⟨w.heap.size + 1 + 1, 2, none⟩ (.int .i64 a2)).setCell ⟨w.heap.size + 1 + 1, 3, none⟩ (.slice sa2 l2.length sc2)).setCell ⟨w.heap.size + 1 + 1, 4, none⟩ (.int .i64 n2)).setCell ⟨w.heap.size + 1 + 1, 5, none⟩ (.int .i64 m2)).setCell ⟨w.heap.size + 1 + 1, 6, none⟩ (.bool z2)).setCell ⟨w.heap.size + 1 + 1, 7, none⟩ (.int .i64 i2)).setCell ⟨w.heap.size + 1 + 1, 8, none⟩ (.string s2)) (w.heap.size + 1 + 1) 25 (Ta.mk k2 r2 ra2 rc2 a2 l2 sa2 sc2 n2 m2 z2 i2 s2).vals from (((((((((HR7.out.res.set_ 0 (.int .i64 k2)).set_ 1 (.slice ra2 r2.length rc2)).set_ 2 (.int .i64 a2)).set_ 3 (.slice sa2 l2.length sc2)).set_ 4 (.int .i64 n2)).set_ 5 (.int .i64 m2)).set_ 6 (.bool z2)).set_ 7 (.int .i64 i2)).set_ 8 (.string s2)))) rfl ?_
          refine ⟨Ta.mk k2 r2 ra2 rc2 a2 l2 sa2 sc2 n2 m2 z2 i2 s2, rfl, HTR7.out, HRT7.out.fr_kept (kept9 w7 (w.heap.size + 1 + 1) 0 (.int .i64 k2) (.slice ra2 r2.length rc2) (.int .i64 a2) (.slice sa2 l2.length sc2) (.int .i64 n2) (.int .i64 m2) (.bool z2) (.int .i64 i2) (.string s2)) (by simp) (by simp), Below.kept HR7.out.below (kept9 w7 (w.heap.size + 1 + 1) 0 (.int .i64 k2) (.slice ra2 r2.length rc2) (.int .i64 a2) (.slice sa2 l2.length sc2) (.int .i64 n2) (.int .i64 m2) (.bool z2) (.int .i64 i2) (.string s2)) (by intro b hb; simp at hb; omega) HR7.out.below.size⟩
end Go.Proofs.Ytfgelkfnbohmmaa
