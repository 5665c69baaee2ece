/- prog's maker: assertions, classes. -/
import Derived.Test.YtfgelkfnbohmmaaP33
namespace Go.Proofs.Ytfgelkfnbohmmaa
open Go.RowKit Go.Proofs.Ytfgelkfnbohmmaa.Mach Go.Proofs.Ytfgelkfnbohmmaa.Tr
variable {X : List Nat}
set_option maxRecDepth 100000 in
set_option maxHeartbeats 2000000 in
theorem layAss_any (k : Int) (r : List (Int × Int)) (ra : Option Addr) (rc : Nat) (ast : Int) (l : List Ta) (sa : Option Addr) (sc : Nat) (mn mx : Int) (z : Bool) (ix : Int) (nm : ByteArray) (w : World) (rb : Nat) (v : Value) (L : List InV) (hr : RowI X rb 62 v L w) (hl : L.length + 1 ≤ 1000000000) :
    Calls Try.prog 72 #[(.pointer (some ⟨rb, 0, none⟩)), (Ta.mk k r ra rc ast l sa sc mn mx z ix nm).val] w fun e w' => e = .returned (.tuple #[]) ∧ ∃ v' L', LP X rb v w L 1 [⟨4, (L.length : Int) + 1, 0, ast, []⟩] v' L' w' := by
  have hb0 : Below w.heap.size w (w.alloc (.cells #[.int .i64 k, .slice ra r.length rc, .int .i64 ast, .slice sa l.length sc, .int .i64 mn, .int .i64 mx, .bool z, .int .i64 ix, .string nm] 25)) := (Below.refl _ _).alloc (Nat.le_refl _) _
  have hb1 := bdrewN hb0 1
  have HP := Lib.hid (put_walk rb 4 ast v L (w.alloc (.cells #[.int .i64 k, .slice ra r.length rc, .int .i64 ast, .slice sa l.length sc, .int .i64 mn, .int .i64 mx, .bool z, .int .i64 ix, .string nm] 25)).drew (hr.below hb1) (by omega))
  have HL := Lib.hid (LP.refl hr hb1)
  have HX := Lib.hid (hr.new (ty2 := 25) [.int .i64 k, .slice ra r.length rc, .int .i64 ast, .slice sa l.length sc, .int .i64 mn, .int .i64 mx, .bool z, .int .i64 ix, .string nm])
  clear hr hb0 hb1
  simp only [Ta.val, Ta.vals]
  go_enter Try.func72, Try.ntmps72
  go_wp2_with fail
  generalize (w.alloc (.cells #[.int .i64 k, .slice ra r.length rc, .int .i64 ast, .slice sa l.length sc, .int .i64 mn, .int .i64 mx, .bool z, .int .i64 ix, .string nm] 25)) = w1 at *
  have kA : w1.drew.cell? ⟨w.heap.size, 2, none⟩ = some (.int .i64 ast) := HX.out.blk.cell 2
  go_region_held_law (fun w' => w'.cell? ⟨w.heap.size, 2, none⟩ = some (.int .i64 ast)) (first | with_reducible exact kA | with_reducible exact kB | with_reducible exact kC | with_reducible exact kD) (first | (go_at_call 21; refine HP.out.mono ?_; rintro e w5 ⟨rfl, v5, hr5, hk5⟩; have HL5 := Lib.hid (HL.out.trans (LP.put hr5 hk5)); have HX5 := Lib.hid (hk5.nb (w := w1.drew) ⟨HX.out.blk, HX.out.ne, HX.out.sep⟩); have kB : w5.cell? ⟨w.heap.size, 2, none⟩ = some (.int .i64 ast) := HX5.out.blk.cell 2; clear hr5 hk5; simp only []))
  go_end0
  exact ⟨rfl, _, _, HL5.out⟩
set_option maxRecDepth 100000 in
set_option maxHeartbeats 2000000 in
theorem class_none (k : Int) (r : List (Int × Int)) (ra : Option Addr) (rc : Nat) (ast : Int) (l : List Ta) (sa : Option Addr) (sc : Nat) (mn mx : Int) (z : Bool) (ix : Int) (nm : ByteArray) (w : World) (rb : Nat) (v : Value) (L : List InV) (hr : RowI X rb 62 v L w) (hl : L.length + 1 ≤ 1000000000) (hrp : r = []) :
    Calls Try.prog 71 #[(.pointer (some ⟨rb, 0, none⟩)), (Ta.mk k r ra rc ast l sa sc mn mx z ix nm).val] w fun e w' => e = .returned (.tuple #[]) ∧ ∃ v' L', LP X rb v w L 1 [⟨6, 0, 0, 0, []⟩] v' L' w' := by
  subst hrp
  have hb0 : Below w.heap.size w (w.alloc (.cells #[.int .i64 k, .slice ra ([] : List (Int × Int)).length rc, .int .i64 ast, .slice sa l.length sc, .int .i64 mn, .int .i64 mx, .bool z, .int .i64 ix, .string nm] 25)) := (Below.refl _ _).alloc (Nat.le_refl _) _
  have hb1 := bdrewN hb0 1
  have HP := Lib.hid (end_walk rb ⟨6, 0, 0, 0, []⟩ rfl v L (w.alloc (.cells #[.int .i64 k, .slice ra ([] : List (Int × Int)).length rc, .int .i64 ast, .slice sa l.length sc, .int .i64 mn, .int .i64 mx, .bool z, .int .i64 ix, .string nm] 25)) (hr.below hb0) (by omega))
  have HL := Lib.hid (LP.refl hr hb0)
  have HX := Lib.hid (hr.new (ty2 := 25) [.int .i64 k, .slice ra ([] : List (Int × Int)).length rc, .int .i64 ast, .slice sa l.length sc, .int .i64 mn, .int .i64 mx, .bool z, .int .i64 ix, .string nm])
  clear hr hb0 hb1
  simp only [Ta.val, Ta.vals]
  go_enter Try.func71, Try.ntmps71
  have kA : (w.alloc (.cells #[.int .i64 k, .slice ra ([] : List (Int × Int)).length rc, .int .i64 ast, .slice sa l.length sc, .int .i64 mn, .int .i64 mx, .bool z, .int .i64 ix, .string nm] 25)).cell? ⟨w.heap.size, 1, none⟩ = some (.slice ra 0 rc) := HX.out.blk.cell 1
  go_wp2_with fail
  generalize (w.alloc (.cells #[.int .i64 k, .slice ra ([] : List (Int × Int)).length rc, .int .i64 ast, .slice sa l.length sc, .int .i64 mn, .int .i64 mx, .bool z, .int .i64 ix, .string nm] 25)) = w1 at *
  refine HP.out.mono ?_
  rintro e w5 ⟨rfl, v5, hr5, hk5⟩
  have HL5 := Lib.hid (HL.out.trans (LP.put hr5 hk5))
  clear hr5 hk5
  simp only []
  go_wp2_with fail
  refine bodyPost_ret (results_none rfl _ _ _) rfl ?_
  exact ⟨rfl, _, _, HL5.out⟩
set_option maxRecDepth 100000 in
set_option maxHeartbeats 2000000 in
theorem class_some (k : Int) (r : List (Int × Int)) (ra : Option Addr) (rc : Nat) (ast : Int) (l : List Ta) (sa : Option Addr) (sc : Nat) (mn mx : Int) (z : Bool) (ix : Int) (nm : ByteArray) (S : Nat → Prop) (w : World) (rb : Nat) (v : Value) (L : List InV) (h : RT w S (.mk k r ra rc ast l sa sc mn mx z ix nm)) (hS : ∀ b, S b → b < rb) (hr : RowI X rb 62 v L w) (hl : L.length + 1 ≤ 1000000000) (hrp : r ≠ []) :
    Calls Try.prog 71 #[(.pointer (some ⟨rb, 0, none⟩)), (Ta.mk k r ra rc ast l sa sc mn mx z ix nm).val] w fun e w' => e = .returned (.tuple #[]) ∧ ∃ v' L', LP X rb v w L 1 [⟨1, (L.length : Int) + 1, 0, 0, r⟩] v' L' w' := by
  have hb0 : Below w.heap.size w (w.alloc (.cells #[.int .i64 k, .slice ra r.length rc, .int .i64 ast, .slice sa l.length sc, .int .i64 mn, .int .i64 mx, .bool z, .int .i64 ix, .string nm] 25)) := (Below.refl _ _).alloc (Nat.le_refl _) _
  have HP := Lib.hid (put_walk rb 1 0 v L (w.alloc (.cells #[.int .i64 k, .slice ra r.length rc, .int .i64 ast, .slice sa l.length sc, .int .i64 mn, .int .i64 mx, .bool z, .int .i64 ix, .string nm] 25)) (hr.below hb0) (by omega))
  have HL := Lib.hid (LP.refl hr hb0)
  have HX := Lib.hid (hr.new (ty2 := 25) [.int .i64 k, .slice ra r.length rc, .int .i64 ast, .slice sa l.length sc, .int .i64 mn, .int .i64 mx, .bool z, .int .i64 ix, .string nm])
  have hrl : ¬ r.length = 0 := fun e => hrp (List.eq_nil_of_length_eq_zero e)
  obtain ⟨⟨hR, hrl2, hll, hnm⟩, -, -⟩ := h.parts
  have HRR := Lib.hid hR
  have HS := Lib.hid hS
  have HR := Lib.hid hr
  have HB0 := Lib.hid hb0
  clear h hS hr hb0 hrp hR hnm hll
  simp only [Ta.val, Ta.vals]
  go_enter Try.func71, Try.ntmps71
  have kA : (w.alloc (.cells #[.int .i64 k, .slice ra r.length rc, .int .i64 ast, .slice sa l.length sc, .int .i64 mn, .int .i64 mx, .bool z, .int .i64 ix, .string nm] 25)).cell? ⟨w.heap.size, 1, none⟩ = some (.slice ra r.length rc) := HX.out.blk.cell 1
  go_wp2_with fail
  generalize (w.alloc (.cells #[.int .i64 k, .slice ra r.length rc, .int .i64 ast, .slice sa l.length sc, .int .i64 mn, .int .i64 mx, .bool z, .int .i64 ix, .string nm] 25)) = w1 at *
  refine HP.out.mono ?_
  rintro e w5 ⟨rfl, v5, hr5, hk5⟩
  have HL5 := Lib.hid (HL.out.trans (LP.put hr5 hk5))
  have HX5 := Lib.hid (hk5.nb HX.out)
  have HR5 := Lib.hid hr5
  obtain ⟨A5, c5, rfl⟩ := own_shape hr5.own
  clear hr5 hk5
  simp only []
  obtain ⟨g0, rfl, -, hg0, hg1⟩ := own_form HR5.out.own (by simp)
  obtain ⟨b, off, rfl, hSb, hcb⟩ := HRR.out.2.2.2.2 (by omega)
  have hlen5 : (L ++ [⟨⟨1, (L.length : Int) + 1, 0, 0, []⟩, none, 0, 0⟩] : List InV).length = L.length + 1 := by simp
  have hrb5 := HR5.out.blk.lt
  have hbrb := HS.out b hSb
  have hlow5 : Below rb w w5 := HR.out.low HL5.out.rk
  have hnews : ∀ j u, (flat r)[j]? = some u → w5.drew.cell? ((⟨b, off, none⟩ : Addr).add j) = some u := fun j u hu => by
    rw [add_lit]
    exact (hlow5.cell (p := ⟨b, off + j, none⟩) hbrb).trans (hcb j u hu)
  have e0 : w5.drew.cell? ⟨rb, 0, none⟩ = some (.slice (some ⟨g0, 0, none⟩) (L.length + 1) c5) := by rw [← hlen5]; exact HR5.out.blk.cell 0
  have e1 : w5.drew.cell? ⟨w.heap.size, 1, none⟩ = some (.slice (some ⟨b, off, none⟩) r.length rc) := HX5.out.blk.cell 1
  have hlt : (L.length : Int) < (L.length : Int) + 1 := by omega
  obtain ⟨i0, hi, hz0, hz1, hz2⟩ := info_parts info_clone_rng
  have HN := Lib.hid hnews
  have HLN := Lib.hid hlen5
  clear hnews hlow5 hcb hSb HRR HS HX HP kA hlen5
  go_wp2_with fail
  go_region_law (first
    | (refine step_append_lies _ rfl (.const (.slice none 0 0)) (.tmp 25) 22 rfl w5.heap.size 52 i0 (.agg #[.int .i64 0, .int .i64 0]) 2 16 Try.underlying22 hi hz0 hz1 hz2 rfl (by decide) (.slice none 0 0) 0 [] rfl (World.ownsRow_nil _ _ _ _) ⟨b, off, none⟩ r.length rc (flat r) rfl (flat_length r) HN.out (flat_one r) (by omega) (by unfold maxLen; omega) (by omega) (Nat.le_refl _) _ rfl ?_; intro g cap w6 hou hgr hat hl6; have hb6 : Below w5.heap.size w5 w6 := (((Kept.drew (L := [])).trans (Kept.of_grown' hgr)).below (by simp [Value.ownBlock]) (Nat.le_refl _)); have HR6 := Lib.hid (HR5.out.below hb6); have e0' : w6.cell? ⟨rb, 0, none⟩ = some (.slice (some ⟨g0, 0, none⟩) (L.length + 1) c5) := (by rw [← HLN.out]; exact HR6.out.blk.cell 0); have f4 : w6.cell? ⟨g0, L.length * 5 + 4, none⟩ = some (.slice none 0 0) := own_cell HR6.out.own (insRow_at L ⟨⟨1, (L.length : Int) + 1, 0, 0, []⟩, none, 0, 0⟩ 4 (by omega)); have f5 := own_frozen HR6.out.own (L.length * 5 + 4); have HOU := Lib.hid hou; have HB6 := Lib.hid hb6; have HAT := Lib.hid (hou.lt g rfl); clear hou hgr hat hb6))
  all_goals
    go_end0
    have hlenu : L.length < (L ++ [⟨⟨1, (L.length : Int) + 1, 0, 0, []⟩, none, 0, 0⟩] : List InV).length := by simp
    have hat : (L ++ [⟨⟨1, (L.length : Int) + 1, 0, 0, []⟩, none, 0, 0⟩] : List InV)[L.length]? = some ⟨⟨1, (L.length : Int) + 1, 0, 0, []⟩, none, 0, 0⟩ := by simp
    have hru : RdA w6 (Fr rb ([rb, g0] ++ X) w6) 2 (some ⟨g, 0, none⟩) r.length cap (flat r) := by
      obtain ⟨A', c', he, hra⟩ := RdA.of_own (L := [rb, g0] ++ X) HOU.out (by intro x hx hm; simp only [Value.ownBlock, Option.some.injEq] at hx; subst hx; have h1 := HAT.out.1; rcases List.mem_append.1 hm with hm | hm; (simp only [List.mem_cons, List.not_mem_nil, or_false] at hm; omega); (have := HR5.out.xs _ hm; omega))
      simp only [Nat.zero_add, List.nil_append] at he hra
      cases he
      exact hra.mono fun x hx => ⟨by have := hx.1; omega, hx.2.1, hx.2.2⟩
    refine ⟨rfl, _, _, (HL5.out.below HB6.out).set_ (i := L.length) (u := ⟨⟨1, (L.length : Int) + 1, 0, 0, r⟩, some ⟨g, 0, none⟩, r.length, cap⟩) (Nat.le_refl _) ?_ ?_ ?_⟩
    · have := HR6.out.set_ (q := 4) (x := .slice (some ⟨g, 0, none⟩) r.length cap) (u := ⟨⟨1, (L.length : Int) + 1, 0, 0, r⟩, some ⟨g, 0, none⟩, r.length, cap⟩) hat (by omega) rfl hru
      simp only [List.length_set] at this
      exact this
    · exact RowI.set_k
    · intro _
      simp
end Go.Proofs.Ytfgelkfnbohmmaa
namespace Go.Proofs.Ytfgelkfnbohmmaa
open Go.RowKit Go.Proofs.Ytfgelkfnbohmmaa.Mach Go.Proofs.Ytfgelkfnbohmmaa.Tr
variable {X : List Nat}
set_option maxRecDepth 100000 in
set_option maxHeartbeats 2000000 in
theorem layCat_any (k : Int) (r : List (Int × Int)) (ra : Option Addr) (rc : Nat) (ast : Int) (l : List Ta) (sa : Option Addr) (sc : Nat) (mn mx : Int) (z : Bool) (ix : Int) (nm : ByteArray) (ih : ∀ u ∈ l, LY u) (S : Nat → Prop) (w : World) (rb : Nat) (v : Value) (L : List InV) (h : RT w S (.mk k r ra rc ast l sa sc mn mx z ix nm)) (hS : ∀ b, S b → b < rb) (hr : RowI X rb 62 v L w) (hl : L.length + lensS (trs l) ≤ 1000000000) :
    Calls Try.prog 76 #[(.pointer (some ⟨rb, 0, none⟩)), (Ta.mk k r ra rc ast l sa sc mn mx z ix nm).val] w fun e w' => e = .returned (.tuple #[]) ∧ ∃ v' L', LP X rb v w L (lensS (trs l)) (codesS (trs l) L.length) v' L' w' := by
  have hb0 : Below w.heap.size w (w.alloc (.cells #[.int .i64 k, .slice ra r.length rc, .int .i64 ast, .slice sa l.length sc, .int .i64 mn, .int .i64 mx, .bool z, .int .i64 ix, .string nm] 25)) := (Below.refl _ _).alloc (Nat.le_refl _) _
  have HL := Lib.hid (LP.refl hr hb0)
  have HX := Lib.hid (hr.new (ty2 := 25) [.int .i64 k, .slice ra r.length rc, .int .i64 ast, .slice sa l.length sc, .int .i64 mn, .int .i64 mx, .bool z, .int .i64 ix, .string nm])
  have HR := Lib.hid hr
  obtain ⟨⟨-, -, hll, -⟩, hN, hLs⟩ := h.parts
  have HNN := Lib.hid hN
  have HLS := Lib.hid hLs
  have HS := Lib.hid hS
  have HIH := Lib.hid ih
  clear h hS hr hb0 hN hLs ih
  have kA : (w.alloc (.cells #[.int .i64 k, .slice ra r.length rc, .int .i64 ast, .slice sa l.length sc, .int .i64 mn, .int .i64 mx, .bool z, .int .i64 ix, .string nm] 25)).cell? ⟨w.heap.size, 3, none⟩ = some (.slice sa l.length sc) := HX.out.blk.cell 3
  simp only [Ta.val, Ta.vals]
  go_enter Try.func76, Try.ntmps76
  go_wp2_with fail
  go_loopw [9] (fun iv wr => ∃ (i : Nat) (v' : Value) (L' : List InV), i ≤ l.length ∧ iv = .int .i64 (i : Int) ∧ LP X rb v w L (lensS (trs (l.take i))) (codesS (trs (l.take i)) L.length) v' L' wr) (fun iv _ => l.length - (intOf iv).toNat)
  case atStart => exact ⟨0, v, L, Nat.zero_le _, rfl, by rw [List.take_zero, trs, lensS, codesS]; exact HL.out⟩
  case round =>
    obtain ⟨i, v', L', hi, rfl, hq⟩ := hrel
    have HQ := Lib.hid hq
    by_cases hlt : i < l.length
    · have hlt2 : (i : Int) < (l.length : Int) := by omega
      obtain ⟨b, off, rfl, hSb, _⟩ := HNN.out.2.2.2.2 (by omega)
      obtain ⟨u, hu⟩ : ∃ u, l[i]? = some u := ⟨_, List.getElem?_eq_getElem hlt⟩
      have hum : u ∈ l := List.mem_of_getElem? hu
      have hB : Below rb w wr := HR.out.low hq.rk
      have hcell : ∀ j, j < 9 → wr.cell? ⟨b, off + i * 9 + j, none⟩ = u.vals[j]? := fun j hj => by
        rw [Nat.add_assoc]
        rw [← HNN.out.node hu hj]
        exact (hB.cell (p := ⟨b, off + (i * 9 + j), none⟩) (HS.out b hSb))
      have hba : Below wr.heap.size wr (wr.alloc (.cells u.vals.toArray 25)) := (Below.refl _ _).alloc (Nat.le_refl _) _
      have HTK := Lib.hid (show trs (l.take (i + 1)) = trs (l.take i) ++ [u.tr] from by rw [List.take_add_one, hu, trs_map, trs_map, List.map_append]; rfl)
      have hle := lens_take (trs l) (i + 1)
      have htt : (trs l).take (i + 1) = trs (l.take (i + 1)) := by rw [trs_map, trs_map, List.map_take]
      rw [htt, HTK.out, lensS_app, lensS, lensS] at hle
      have hqle := hq.le
      have hRK := HIH.out u hum X S (wr.alloc (.cells u.vals.toArray 25)) rb v' L' ((HLS.out u hum).below HS.out (hB.trans (hba.mono (Nat.le_of_lt hq.row.blk.lt)))) HS.out (hq.row.below hba) (by omega)
      have HBA := Lib.hid hba
      clear hq hB hba hu hum htt hle hqle
      obtain ⟨ut, hut⟩ : ∃ q, q = u.tr := ⟨_, rfl⟩
      rw [← hut] at hRK HTK
      clear hut
      cases u with
      | mk k' r' ra' rc' a' l' sa' sc' n' m' z' i' s' =>
      simp only [Ta.vals] at hcell HBA
      simp only [Ta.val, Ta.vals] at hRK
      have c0 := hcell 0 (by omega)
      have c1' := hcell 1 (by omega)
      have c2' := hcell 2 (by omega)
      have c3 := hcell 3 (by omega)
      have c4 := hcell 4 (by omega)
      have c5 := hcell 5 (by omega)
      have c6 := hcell 6 (by omega)
      have c7 := hcell 7 (by omega)
      have c8 := hcell 8 (by omega)
      simp only [List.getElem?_cons_zero, List.getElem?_cons_succ, Nat.add_zero] at c0 c1' c2' c3 c4 c5 c6 c7 c8
      have HIN := Lib.hid hRK
      clear hcell hRK
      go_wp2_with fail
      refine HIN.out.mono ?_
      rintro e w5 ⟨rfl, v5, L5, hq5⟩
      have HQ5 := Lib.hid ((HQ.out.below HBA.out).seq (codes_len _ _) (codeS ut) hq5)
      clear hq5
      simp only []
      go_wp2_with fail
      go_roundw
      case rel => exact ⟨i + 1, v5, L5, by omega, by go_num, by rw [HTK.out, lensS_app, codesS_app, lensS, lensS, codesS, codesS, List.append_nil]; exact HQ5.out⟩
      case measure => simp [intOf]; omega
    · obtain rfl : i = l.length := by omega
      have hlt2 : ¬ ((l.length : Int) < (l.length : Int)) := by omega
      go_wp2_with fail
      go_end0
      rw [List.take_length] at hq
      exact ⟨rfl, v', L', hq⟩
end Go.Proofs.Ytfgelkfnbohmmaa
