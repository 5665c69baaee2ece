/- simplify.unfolded: a repeat is unfolded. -/
import Derived.Test.YtfgelkfnbohmmaaP16
namespace Go.Proofs.Ytfgelkfnbohmmaa
open Go.RowKit Go.Proofs.Ytfgelkfnbohmmaa.Tr
set_option maxRecDepth 100000 in
set_option maxHeartbeats 2000000 in
theorem unfT_star (B : Nat) (y : Ta) (k : Int) (r : List (Int × Int)) (ra : Option Addr) (rc : Nat) (ast : Int) (l : List Ta) (sa : Option Addr) (sc : Nat) (mn mx : Int) (z : Bool) (ix : Int) (nm : ByteArray) (w : World) (hy : RT w (Fr B [] w) y) (hB : B ≤ w.heap.size) (hm : mx < 0) (h0 : (mn == 0) = true) :
    Calls Try.prog 69 #[y.val, (Ta.mk k r ra rc ast l sa sc mn mx z ix nm).val] w fun e w' => ∃ u : Ta, e = .returned u.val ∧ u.tr = repT y.tr 0 (-1) z ∧ RT w' (Fr B [] w') u ∧ Below w.heap.size w w' := by
  have hus := us_start B y (Ta.mk k r ra rc ast l sa sc mn mx z ix nm) w hy hB rfl
  have hz : ((((w.alloc (.cells y.vals.toArray 25)).alloc (.cells (Ta.mk k r ra rc ast l sa sc mn mx z ix nm).vals.toArray 25)).alloc (.cells #[.int .i64 0, .slice none 0 0, .int .i64 0, .slice none 0 0, .int .i64 0, .int .i64 0, .bool false, .int .i64 0, .string ⟨#[]⟩] 25)).alloc (.cells #[.slice none 0 0] 122)).cell? ⟨w.heap.size + 1, 6, none⟩ = some (.bool z) := hus.tb.cell 6
  have HRE := Lib.hid (rep_any B ([w.heap.size + 1 + 1] ++ (w.heap.size + 1 + 1 + 1) :: (Value.slice none 0 0).ownBlock.toList) y (w.heap.size + 1) 0 (-1) z _ hz hus.yt (Nat.le_trans hB hus.below.size) (by have := hus.row.blk.lt; intro x hx; simp [Value.ownBlock] at hx; omega))
  have HUS := Lib.hid hus
  clear hz hus hy
  cases y with
  | mk k' r' ra' rc' a' l' sa' sc' n' m' z' i' s' =>
  simp only [Ta.val, Ta.vals] at HRE HUS ⊢
  have y0 : ((((w.alloc (.cells #[.int .i64 k', .slice ra' r'.length rc', .int .i64 a', .slice sa' l'.length sc', .int .i64 n', .int .i64 m', .bool z', .int .i64 i', .string s'] 25)).alloc (.cells #[.int .i64 k, .slice ra r.length rc, .int .i64 ast, .slice sa l.length sc, .int .i64 mn, .int .i64 mx, .bool z, .int .i64 ix, .string nm] 25)).alloc (.cells #[.int .i64 0, .slice none 0 0, .int .i64 0, .slice none 0 0, .int .i64 0, .int .i64 0, .bool false, .int .i64 0, .string ⟨#[]⟩] 25)).alloc (.cells #[.slice none 0 0] 122)).cell? ⟨w.heap.size, 0, none⟩ = some (.int .i64 k') := HUS.out.yb.cell 0
  have y1 : ((((w.alloc (.cells #[.int .i64 k', .slice ra' r'.length rc', .int .i64 a', .slice sa' l'.length sc', .int .i64 n', .int .i64 m', .bool z', .int .i64 i', .string s'] 25)).alloc (.cells #[.int .i64 k, .slice ra r.length rc, .int .i64 ast, .slice sa l.length sc, .int .i64 mn, .int .i64 mx, .bool z, .int .i64 ix, .string nm] 25)).alloc (.cells #[.int .i64 0, .slice none 0 0, .int .i64 0, .slice none 0 0, .int .i64 0, .int .i64 0, .bool false, .int .i64 0, .string ⟨#[]⟩] 25)).alloc (.cells #[.slice none 0 0] 122)).cell? ⟨w.heap.size, 1, none⟩ = some (.slice ra' r'.length rc') := HUS.out.yb.cell 1
  have y2 : ((((w.alloc (.cells #[.int .i64 k', .slice ra' r'.length rc', .int .i64 a', .slice sa' l'.length sc', .int .i64 n', .int .i64 m', .bool z', .int .i64 i', .string s'] 25)).alloc (.cells #[.int .i64 k, .slice ra r.length rc, .int .i64 ast, .slice sa l.length sc, .int .i64 mn, .int .i64 mx, .bool z, .int .i64 ix, .string nm] 25)).alloc (.cells #[.int .i64 0, .slice none 0 0, .int .i64 0, .slice none 0 0, .int .i64 0, .int .i64 0, .bool false, .int .i64 0, .string ⟨#[]⟩] 25)).alloc (.cells #[.slice none 0 0] 122)).cell? ⟨w.heap.size, 2, none⟩ = some (.int .i64 a') := HUS.out.yb.cell 2
  have y3 : ((((w.alloc (.cells #[.int .i64 k', .slice ra' r'.length rc', .int .i64 a', .slice sa' l'.length sc', .int .i64 n', .int .i64 m', .bool z', .int .i64 i', .string s'] 25)).alloc (.cells #[.int .i64 k, .slice ra r.length rc, .int .i64 ast, .slice sa l.length sc, .int .i64 mn, .int .i64 mx, .bool z, .int .i64 ix, .string nm] 25)).alloc (.cells #[.int .i64 0, .slice none 0 0, .int .i64 0, .slice none 0 0, .int .i64 0, .int .i64 0, .bool false, .int .i64 0, .string ⟨#[]⟩] 25)).alloc (.cells #[.slice none 0 0] 122)).cell? ⟨w.heap.size, 3, none⟩ = some (.slice sa' l'.length sc') := HUS.out.yb.cell 3
  have y4 : ((((w.alloc (.cells #[.int .i64 k', .slice ra' r'.length rc', .int .i64 a', .slice sa' l'.length sc', .int .i64 n', .int .i64 m', .bool z', .int .i64 i', .string s'] 25)).alloc (.cells #[.int .i64 k, .slice ra r.length rc, .int .i64 ast, .slice sa l.length sc, .int .i64 mn, .int .i64 mx, .bool z, .int .i64 ix, .string nm] 25)).alloc (.cells #[.int .i64 0, .slice none 0 0, .int .i64 0, .slice none 0 0, .int .i64 0, .int .i64 0, .bool false, .int .i64 0, .string ⟨#[]⟩] 25)).alloc (.cells #[.slice none 0 0] 122)).cell? ⟨w.heap.size, 4, none⟩ = some (.int .i64 n') := HUS.out.yb.cell 4
  have y5 : ((((w.alloc (.cells #[.int .i64 k', .slice ra' r'.length rc', .int .i64 a', .slice sa' l'.length sc', .int .i64 n', .int .i64 m', .bool z', .int .i64 i', .string s'] 25)).alloc (.cells #[.int .i64 k, .slice ra r.length rc, .int .i64 ast, .slice sa l.length sc, .int .i64 mn, .int .i64 mx, .bool z, .int .i64 ix, .string nm] 25)).alloc (.cells #[.int .i64 0, .slice none 0 0, .int .i64 0, .slice none 0 0, .int .i64 0, .int .i64 0, .bool false, .int .i64 0, .string ⟨#[]⟩] 25)).alloc (.cells #[.slice none 0 0] 122)).cell? ⟨w.heap.size, 5, none⟩ = some (.int .i64 m') := HUS.out.yb.cell 5
  have y6 : ((((w.alloc (.cells #[.int .i64 k', .slice ra' r'.length rc', .int .i64 a', .slice sa' l'.length sc', .int .i64 n', .int .i64 m', .bool z', .int .i64 i', .string s'] 25)).alloc (.cells #[.int .i64 k, .slice ra r.length rc, .int .i64 ast, .slice sa l.length sc, .int .i64 mn, .int .i64 mx, .bool z, .int .i64 ix, .string nm] 25)).alloc (.cells #[.int .i64 0, .slice none 0 0, .int .i64 0, .slice none 0 0, .int .i64 0, .int .i64 0, .bool false, .int .i64 0, .string ⟨#[]⟩] 25)).alloc (.cells #[.slice none 0 0] 122)).cell? ⟨w.heap.size, 6, none⟩ = some (.bool z') := HUS.out.yb.cell 6
  have y7 : ((((w.alloc (.cells #[.int .i64 k', .slice ra' r'.length rc', .int .i64 a', .slice sa' l'.length sc', .int .i64 n', .int .i64 m', .bool z', .int .i64 i', .string s'] 25)).alloc (.cells #[.int .i64 k, .slice ra r.length rc, .int .i64 ast, .slice sa l.length sc, .int .i64 mn, .int .i64 mx, .bool z, .int .i64 ix, .string nm] 25)).alloc (.cells #[.int .i64 0, .slice none 0 0, .int .i64 0, .slice none 0 0, .int .i64 0, .int .i64 0, .bool false, .int .i64 0, .string ⟨#[]⟩] 25)).alloc (.cells #[.slice none 0 0] 122)).cell? ⟨w.heap.size, 7, none⟩ = some (.int .i64 i') := HUS.out.yb.cell 7
  have y8 : ((((w.alloc (.cells #[.int .i64 k', .slice ra' r'.length rc', .int .i64 a', .slice sa' l'.length sc', .int .i64 n', .int .i64 m', .bool z', .int .i64 i', .string s'] 25)).alloc (.cells #[.int .i64 k, .slice ra r.length rc, .int .i64 ast, .slice sa l.length sc, .int .i64 mn, .int .i64 mx, .bool z, .int .i64 ix, .string nm] 25)).alloc (.cells #[.int .i64 0, .slice none 0 0, .int .i64 0, .slice none 0 0, .int .i64 0, .int .i64 0, .bool false, .int .i64 0, .string ⟨#[]⟩] 25)).alloc (.cells #[.slice none 0 0] 122)).cell? ⟨w.heap.size, 8, none⟩ = some (.string s') := HUS.out.yb.cell 8
  go_enter Try.func69, Try.ntmps69
  go_wp2_with fail
  refine HRE.out.mono ?_
  rintro e w5 ⟨v, rfl, htr, hrt, hb5⟩
  have HU5 := Lib.hid (HUS.out.bel hb5)
  have HTR := Lib.hid htr
  have HRT := Lib.hid hrt
  clear hb5 htr hrt HRE HUS y0 y1 y2 y3 y4 y5 y6 y7 y8
  cases v with
  | mk k2 r2 ra2 rc2 a2 l2 sa2 sc2 n2 m2 z2 i2 s2 =>
  have q0 : w5.cell? ⟨w.heap.size + 1 + 1, 0, none⟩ = some (.int .i64 0) := HU5.out.res.cell 0
  have q1 : w5.cell? ⟨w.heap.size + 1 + 1, 1, none⟩ = some (.slice none 0 0) := HU5.out.res.cell 1
  have q2 : w5.cell? ⟨w.heap.size + 1 + 1, 2, none⟩ = some (.int .i64 0) := HU5.out.res.cell 2
  have q3 : w5.cell? ⟨w.heap.size + 1 + 1, 3, none⟩ = some (.slice none 0 0) := HU5.out.res.cell 3
  have q4 : w5.cell? ⟨w.heap.size + 1 + 1, 4, none⟩ = some (.int .i64 0) := HU5.out.res.cell 4
  have q5 : w5.cell? ⟨w.heap.size + 1 + 1, 5, none⟩ = some (.int .i64 0) := HU5.out.res.cell 5
  have q6 : w5.cell? ⟨w.heap.size + 1 + 1, 6, none⟩ = some (.bool false) := HU5.out.res.cell 6
  have q7 : w5.cell? ⟨w.heap.size + 1 + 1, 7, none⟩ = some (.int .i64 0) := HU5.out.res.cell 7
  have q8 : w5.cell? ⟨w.heap.size + 1 + 1, 8, none⟩ = some (.string ⟨#[]⟩) := HU5.out.res.cell 8
  have fz0 := HU5.out.res.frozen 0
  have fz1 := HU5.out.res.frozen 1
  have fz2 := HU5.out.res.frozen 2
  have fz3 := HU5.out.res.frozen 3
  have fz4 := HU5.out.res.frozen 4
  have fz5 := HU5.out.res.frozen 5
  have fz6 := HU5.out.res.frozen 6
  have fz7 := HU5.out.res.frozen 7
  have fz8 := HU5.out.res.frozen 8
  have fz9 := HU5.out.res.lt
  simp only []
  go_wp2_with fail
  refine bodyPost_ret (node_ret rfl _ _ (w.heap.size + 1 + 1) (Ta.mk k2 r2 ra2 rc2 a2 l2 sa2 sc2 n2 m2 z2 i2 s2) rfl (show Blk (((((((((w5.setCell ⟨w.heap.size + 1 + 1, 0, none⟩ (.int .i64 k2)).setCell ⟨w.heap.size + 1 + 1, 1, none⟩ (.slice ra2 r2.length rc2)).setCell ⟨w.heap.size + 1 + 1, 2, none⟩ (.int .i64 a2)).setCell ⟨w.heap.size + 1 + 1, 3, none⟩ (.slice sa2 l2.length sc2)).setCell ⟨w.heap.size + 1 + 1, 4, none⟩ (.int .i64 n2)).setCell ⟨w.heap.size + 1 + 1, 5, none⟩ (.int .i64 m2)).setCell ⟨w.heap.size + 1 + 1, 6, none⟩ (.bool z2)).setCell ⟨w.heap.size + 1 + 1, 7, none⟩ (.int .i64 i2)).setCell ⟨w.heap.size + 1 + 1, 8, none⟩ (.string s2)) (w.heap.size + 1 + 1) 25 (Ta.mk k2 r2 ra2 rc2 a2 l2 sa2 sc2 n2 m2 z2 i2 s2).vals from (((((((((HU5.out.res.set_ 0 (.int .i64 k2)).set_ 1 (.slice ra2 r2.length rc2)).set_ 2 (.int .i64 a2)).set_ 3 (.slice sa2 l2.length sc2)).set_ 4 (.int .i64 n2)).set_ 5 (.int .i64 m2)).set_ 6 (.bool z2)).set_ 7 (.int .i64 i2)).set_ 8 (.string s2)))) rfl ?_
  refine ⟨Ta.mk k2 r2 ra2 rc2 a2 l2 sa2 sc2 n2 m2 z2 i2 s2, rfl, HTR.out, HRT.out.fr_kept (kept9 w5 (w.heap.size + 1 + 1) 0 (.int .i64 k2) (.slice ra2 r2.length rc2) (.int .i64 a2) (.slice sa2 l2.length sc2) (.int .i64 n2) (.int .i64 m2) (.bool z2) (.int .i64 i2) (.string s2)) (by simp) (by simp), Below.kept HU5.out.below (kept9 w5 (w.heap.size + 1 + 1) 0 (.int .i64 k2) (.slice ra2 r2.length rc2) (.int .i64 a2) (.slice sa2 l2.length sc2) (.int .i64 n2) (.int .i64 m2) (.bool z2) (.int .i64 i2) (.string s2)) (by intro b hb; simp at hb; omega) HU5.out.below.size⟩
set_option maxRecDepth 100000 in
set_option maxHeartbeats 2000000 in
theorem unfT_plus (B : Nat) (y : Ta) (k : Int) (r : List (Int × Int)) (ra : Option Addr) (rc : Nat) (ast : Int) (l : List Ta) (sa : Option Addr) (sc : Nat) (mn mx : Int) (z : Bool) (ix : Int) (nm : ByteArray) (w : World) (hy : RT w (Fr B [] w) y) (hB : B ≤ w.heap.size) (hal : allB y.tr = true) (hm : mx < 0) (h0 : (mn == 0) = false) (hmn : 0 ≤ mn) (hmn1 : mn ≤ 1000) (hsz : ((mn - 1).toNat + 1) * (putT y.tr).length ≤ 1000000) :
    Calls Try.prog 69 #[y.val, (Ta.mk k r ra rc ast l sa sc mn mx z ix nm).val] w fun e w' => ∃ u : Ta, e = .returned u.val ∧ u.tr = row (repsT (putT y.tr) (mn - 1).toNat ++ putT (repT y.tr 1 (-1) z)) ∧ RT w' (Fr B [] w') u ∧ Below w.heap.size w w' := by
  have hus := us_start B y (Ta.mk k r ra rc ast l sa sc mn mx z ix nm) w hy hB rfl
  obtain ⟨nn, hnn⟩ : ∃ nn : Nat, mn - 1 = (nn : Int) := ⟨(mn - 1).toNat, by simp at h0; omega⟩
  have hnt : (mn - 1).toNat = nn := by omega
  rw [hnt] at hsz ⊢
  clear hnt hy
  have HUS := Lib.hid hus
  clear hus
  cases y with
  | mk k' r' ra' rc' a' l' sa' sc' n' m' z' i' s' =>
  simp only [Ta.vals] at HUS
  simp only [Ta.val, Ta.vals]
  have t4 : ((((w.alloc (.cells #[.int .i64 k', .slice ra' r'.length rc', .int .i64 a', .slice sa' l'.length sc', .int .i64 n', .int .i64 m', .bool z', .int .i64 i', .string s'] 25)).alloc (.cells #[.int .i64 k, .slice ra r.length rc, .int .i64 ast, .slice sa l.length sc, .int .i64 mn, .int .i64 mx, .bool z, .int .i64 ix, .string nm] 25)).alloc (.cells #[.int .i64 0, .slice none 0 0, .int .i64 0, .slice none 0 0, .int .i64 0, .int .i64 0, .bool false, .int .i64 0, .string ⟨#[]⟩] 25)).alloc (.cells #[.slice none 0 0] 122)).cell? ⟨w.heap.size + 1, 4, none⟩ = some (.int .i64 mn) := HUS.out.tb.cell 4
  have t5 : ((((w.alloc (.cells #[.int .i64 k', .slice ra' r'.length rc', .int .i64 a', .slice sa' l'.length sc', .int .i64 n', .int .i64 m', .bool z', .int .i64 i', .string s'] 25)).alloc (.cells #[.int .i64 k, .slice ra r.length rc, .int .i64 ast, .slice sa l.length sc, .int .i64 mn, .int .i64 mx, .bool z, .int .i64 ix, .string nm] 25)).alloc (.cells #[.int .i64 0, .slice none 0 0, .int .i64 0, .slice none 0 0, .int .i64 0, .int .i64 0, .bool false, .int .i64 0, .string ⟨#[]⟩] 25)).alloc (.cells #[.slice none 0 0] 122)).cell? ⟨w.heap.size + 1, 5, none⟩ = some (.int .i64 mx) := HUS.out.tb.cell 5
  go_enter Try.func69, Try.ntmps69
  go_wp2_with fail
  generalize ((((w.alloc (.cells #[.int .i64 k', .slice ra' r'.length rc', .int .i64 a', .slice sa' l'.length sc', .int .i64 n', .int .i64 m', .bool z', .int .i64 i', .string s'] 25)).alloc (.cells #[.int .i64 k, .slice ra r.length rc, .int .i64 ast, .slice sa l.length sc, .int .i64 mn, .int .i64 mx, .bool z, .int .i64 ix, .string nm] 25)).alloc (.cells #[.int .i64 0, .slice none 0 0, .int .i64 0, .slice none 0 0, .int .i64 0, .int .i64 0, .bool false, .int .i64 0, .string ⟨#[]⟩] 25)).alloc (.cells #[.slice none 0 0] 122)) = w4 at *
  have HAL := Lib.hid hal
  have HSZ := Lib.hid hsz
  clear t4 t5 hal hsz
  go_loopw [56] (fun iv wr => ∃ (j : Nat) (v : Value) (us : List Ta), j ≤ nn ∧ iv = .int .i64 (j : Int) ∧ trs us = repsT (putT (Ta.mk k' r' ra' rc' a' l' sa' sc' n' m' z' i' s').tr) j ∧ US B [] w (Ta.mk k' r' ra' rc' a' l' sa' sc' n' m' z' i' s') (Ta.mk k r ra rc ast l sa sc mn mx z ix nm) v us wr) (fun iv _ => nn - (intOf iv).toNat)
  case atStart => exact ⟨0, _, [], Nat.zero_le _, rfl, rfl, HUS.out⟩
  case round =>
    obtain ⟨j, v, us, hj, rfl, htu, hr⟩ := hrel
    have HR := Lib.hid hr
    have HTU := Lib.hid htu
    have HLN := Lib.hid (show us.length ≤ 1000000 from by rw [← trs_length, HTU.out, reps_len]; exact Nat.le_trans (Nat.mul_le_mul_right _ (show j ≤ nn + 1 by omega)) HSZ.out)
    clear hr htu
    by_cases hlt : j < nn
    · have hlt2 : (j : Int) < mn - 1 := by omega
      have y0 : wr.cell? ⟨w.heap.size, 0, none⟩ = some (.int .i64 k') := HR.out.yb.cell 0
      have y1 : wr.cell? ⟨w.heap.size, 1, none⟩ = some (.slice ra' r'.length rc') := HR.out.yb.cell 1
      have y2 : wr.cell? ⟨w.heap.size, 2, none⟩ = some (.int .i64 a') := HR.out.yb.cell 2
      have y3 : wr.cell? ⟨w.heap.size, 3, none⟩ = some (.slice sa' l'.length sc') := HR.out.yb.cell 3
      have y4 : wr.cell? ⟨w.heap.size, 4, none⟩ = some (.int .i64 n') := HR.out.yb.cell 4
      have y5 : wr.cell? ⟨w.heap.size, 5, none⟩ = some (.int .i64 m') := HR.out.yb.cell 5
      have y6 : wr.cell? ⟨w.heap.size, 6, none⟩ = some (.bool z') := HR.out.yb.cell 6
      have y7 : wr.cell? ⟨w.heap.size, 7, none⟩ = some (.int .i64 i') := HR.out.yb.cell 7
      have y8 : wr.cell? ⟨w.heap.size, 8, none⟩ = some (.string s') := HR.out.yb.cell 8
      go_wp2_with fail
      refine (copied_any (Ta.mk k' r' ra' rc' a' l' sa' sc' n' m' z' i' s') (Fr B (((w.heap.size + 1 + 1) :: []) ++ (w.heap.size + 1 + 1 + 1) :: v.ownBlock.toList) wr) wr HR.out.yt (fun b hb => hb.2.1)).mono ?_
      rintro e w5 ⟨u5, rfl, htr5, hrt5, hb5⟩
      have HR5 := Lib.hid (HR.out.bel hb5)
      have HRT5 := Lib.hid (hrt5.fr_in (B := B) (L := ((w.heap.size + 1 + 1) :: []) ++ (w.heap.size + 1 + 1 + 1) :: v.ownBlock.toList) (Nat.le_trans hB HR.out.below.size) (us_lt HR.out))
      have HTR := Lib.hid htr5
      have HB5 := Lib.hid hb5
      clear htr5 hrt5 hb5
      clear y0 y1 y2 y3 y4 y5 y6 y7 y8
      simp only []
      go_wp2_with fail
      refine (put_any B (w.heap.size + 1 + 1 + 1 + 1) ((w.heap.size + 1 + 1) :: []) (w.heap.size + 1 + 1 + 1) v us u5 w5 HR5.out.row HRT5.out HR5.out.row.blk.lt (Nat.le_trans HLN.out (by decide)) (fun hk => by rw [Ta.subs_len, HTR.out]; rw [HTR.out] at hk; have := subs_pos HAL.out hk; omega)).mono ?_
      rintro e w6 ⟨rfl, v6, hrow6, hk6, hv6⟩
      have HR6 := Lib.hid (HR5.out.put hrow6 hk6 hv6)
      clear hrow6 hk6 hv6
      simp only []
      go_wp2_with fail
      go_roundw
      case rel => exact ⟨j + 1, _, _, by omega, by go_num, by rw [trs_append, putA_tr, HTU.out, HTR.out, reps_succ], HR6.out⟩
      case measure => simp [intOf]; omega
    · obtain rfl : j = nn := by omega
      have hlt2 : ¬ ((j : Int) < mn - 1) := by omega
      have y0 : wr.cell? ⟨w.heap.size, 0, none⟩ = some (.int .i64 k') := HR.out.yb.cell 0
      have y1 : wr.cell? ⟨w.heap.size, 1, none⟩ = some (.slice ra' r'.length rc') := HR.out.yb.cell 1
      have y2 : wr.cell? ⟨w.heap.size, 2, none⟩ = some (.int .i64 a') := HR.out.yb.cell 2
      have y3 : wr.cell? ⟨w.heap.size, 3, none⟩ = some (.slice sa' l'.length sc') := HR.out.yb.cell 3
      have y4 : wr.cell? ⟨w.heap.size, 4, none⟩ = some (.int .i64 n') := HR.out.yb.cell 4
      have y5 : wr.cell? ⟨w.heap.size, 5, none⟩ = some (.int .i64 m') := HR.out.yb.cell 5
      have y6 : wr.cell? ⟨w.heap.size, 6, none⟩ = some (.bool z') := HR.out.yb.cell 6
      have y7 : wr.cell? ⟨w.heap.size, 7, none⟩ = some (.int .i64 i') := HR.out.yb.cell 7
      have y8 : wr.cell? ⟨w.heap.size, 8, none⟩ = some (.string s') := HR.out.yb.cell 8
      have t6 : wr.cell? ⟨w.heap.size + 1, 6, none⟩ = some (.bool z) := HR.out.tb.cell 6
      go_wp2_with fail
      have hz : wr.cell? ⟨w.heap.size + 1, 6, none⟩ = some (.bool z) := HR.out.tb.cell 6
      refine (rep_any B ([w.heap.size + 1 + 1] ++ (w.heap.size + 1 + 1 + 1) :: v.ownBlock.toList) (Ta.mk k' r' ra' rc' a' l' sa' sc' n' m' z' i' s') (w.heap.size + 1) 1 (-1) z wr hz HR.out.yt (Nat.le_trans hB HR.out.below.size) (us_lt HR.out)).mono ?_
      rintro e w5 ⟨v5, rfl, htr5, hrt5, hb5⟩
      have HR5 := Lib.hid (HR.out.bel hb5)
      have HRT5 := Lib.hid hrt5
      have HTR := Lib.hid htr5
      clear htr5 hrt5 hb5 y0 y1 y2 y3 y4 y5 y6 y7 y8 t6 hz
      simp only []
      go_wp2_with fail
      refine (put_any B (w.heap.size + 1 + 1 + 1 + 1) [w.heap.size + 1 + 1] (w.heap.size + 1 + 1 + 1) v us v5 w5 HR5.out.row HRT5.out HR5.out.row.blk.lt (Nat.le_trans HLN.out (by decide)) (fun hk => by rw [HTR.out] at hk; simp [repT, Tr.kind] at hk)).mono ?_
      rintro e w6 ⟨rfl, v6, hrow6, hk6, hv6⟩
      have HR6 := Lib.hid (HR5.out.put hrow6 hk6 hv6)
      clear hrow6 hk6 hv6
      simp only []
      go_wp2_with fail
      have hl6 : (us ++ putA v5).length ≤ 1048576 := by rw [List.length_append, putA_len, HTR.out]; have := HLN.out; simp [putT, repT, Tr.kind]; omega
      refine (tree_any B (w.heap.size + 1 + 1 + 1 + 1) [w.heap.size + 1 + 1] (w.heap.size + 1 + 1 + 1) v6 (us ++ putA v5) w6 HR6.out.row (by omega) (by intro x hx; simp at hx; omega) hl6).mono ?_
      rintro e w7 ⟨u7, rfl, htr7, hrt7, hb7⟩
      have HR7 := Lib.hid (HR6.out.bel hb7)
      have HRT7 := Lib.hid hrt7
      have HTR7 := Lib.hid (htr7.trans (by rw [trs_append, putA_tr, HTR.out, HTU.out]))
      clear hrt7 htr7 hb7 hl6
      cases u7 with
      | mk k2 r2 ra2 rc2 a2 l2 sa2 sc2 n2 m2 z2 i2 s2 =>
      have q0 : w7.cell? ⟨w.heap.size + 1 + 1, 0, none⟩ = some (.int .i64 0) := HR7.out.res.cell 0
      have q1 : w7.cell? ⟨w.heap.size + 1 + 1, 1, none⟩ = some (.slice none 0 0) := HR7.out.res.cell 1
      have q2 : w7.cell? ⟨w.heap.size + 1 + 1, 2, none⟩ = some (.int .i64 0) := HR7.out.res.cell 2
      have q3 : w7.cell? ⟨w.heap.size + 1 + 1, 3, none⟩ = some (.slice none 0 0) := HR7.out.res.cell 3
      have q4 : w7.cell? ⟨w.heap.size + 1 + 1, 4, none⟩ = some (.int .i64 0) := HR7.out.res.cell 4
      have q5 : w7.cell? ⟨w.heap.size + 1 + 1, 5, none⟩ = some (.int .i64 0) := HR7.out.res.cell 5
      have q6 : w7.cell? ⟨w.heap.size + 1 + 1, 6, none⟩ = some (.bool false) := HR7.out.res.cell 6
      have q7 : w7.cell? ⟨w.heap.size + 1 + 1, 7, none⟩ = some (.int .i64 0) := HR7.out.res.cell 7
      have q8 : w7.cell? ⟨w.heap.size + 1 + 1, 8, none⟩ = some (.string ⟨#[]⟩) := HR7.out.res.cell 8
      have fz0 := HR7.out.res.frozen 0
      have fz1 := HR7.out.res.frozen 1
      have fz2 := HR7.out.res.frozen 2
      have fz3 := HR7.out.res.frozen 3
      have fz4 := HR7.out.res.frozen 4
      have fz5 := HR7.out.res.frozen 5
      have fz6 := HR7.out.res.frozen 6
      have fz7 := HR7.out.res.frozen 7
      have fz8 := HR7.out.res.frozen 8
      have fz9 := HR7.out.res.lt
      simp only [Ta.val, Ta.vals]
      go_wp2_with fail
      refine bodyPost_ret (node_ret rfl _ _ (w.heap.size + 1 + 1) (Ta.mk k2 r2 ra2 rc2 a2 l2 sa2 sc2 n2 m2 z2 i2 s2) rfl (show Blk (((((((((w7.setCell ⟨w.heap.size + 1 + 1, 0, none⟩ (.int .i64 k2)).setCell ⟨w.heap.size + 1 + 1, 1, none⟩ (.slice ra2 r2.length rc2)).setCell ⟨w.heap.size + 1 + 1, 2, none⟩ (.int .i64 a2)).setCell ⟨w.heap.size + 1 + 1, 3, none⟩ (.slice sa2 l2.length sc2)).setCell ⟨w.heap.size + 1 + 1, 4, none⟩ (.int .i64 n2)).setCell ⟨w.heap.size + 1 + 1, 5, none⟩ (.int .i64 m2)).setCell ⟨w.heap.size + 1 + 1, 6, none⟩ (.bool z2)).setCell ⟨w.heap.size + 1 + 1, 7, none⟩ (.int .i64 i2)).setCell ⟨w.heap.size + 1 + 1, 8, none⟩ (.string s2)) (w.heap.size + 1 + 1) 25 (Ta.mk k2 r2 ra2 rc2 a2 l2 sa2 sc2 n2 m2 z2 i2 s2).vals from (((((((((HR7.out.res.set_ 0 (.int .i64 k2)).set_ 1 (.slice ra2 r2.length rc2)).set_ 2 (.int .i64 a2)).set_ 3 (.slice sa2 l2.length sc2)).set_ 4 (.int .i64 n2)).set_ 5 (.int .i64 m2)).set_ 6 (.bool z2)).set_ 7 (.int .i64 i2)).set_ 8 (.string s2)))) rfl ?_
      refine ⟨Ta.mk k2 r2 ra2 rc2 a2 l2 sa2 sc2 n2 m2 z2 i2 s2, rfl, HTR7.out, HRT7.out.fr_kept (kept9 w7 (w.heap.size + 1 + 1) 0 (.int .i64 k2) (.slice ra2 r2.length rc2) (.int .i64 a2) (.slice sa2 l2.length sc2) (.int .i64 n2) (.int .i64 m2) (.bool z2) (.int .i64 i2) (.string s2)) (by simp) (by simp), Below.kept HR7.out.below (kept9 w7 (w.heap.size + 1 + 1) 0 (.int .i64 k2) (.slice ra2 r2.length rc2) (.int .i64 a2) (.slice sa2 l2.length sc2) (.int .i64 n2) (.int .i64 m2) (.bool z2) (.int .i64 i2) (.string s2)) (by intro b hb; simp at hb; omega) HR7.out.below.size⟩
end Go.Proofs.Ytfgelkfnbohmmaa
