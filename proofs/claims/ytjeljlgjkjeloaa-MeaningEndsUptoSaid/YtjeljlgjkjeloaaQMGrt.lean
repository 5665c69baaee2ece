/- The greatest Index of a tree: heron/meaning.greatest. -/
import Derived.Test.YtjeljlgjkjeloaaQSimp
import Derived.Test.YtjeljlgjkjeloaaQRefRightR
namespace Go.Proofs.Ytjeljlgjkjeloaa
open Go.RowKit Go.Proofs.Ytjeljlgjkjeloaa.Tr

theorem mgrt_snoc : ∀ (a : List Tr.Tr) (t : Tr.Tr) (g : Int), greatests (a ++ [t]) g = max (greatests a g) (greatest t)
  | [], t, g => by rw [List.nil_append, greatests, greatests, greatests]
  | x :: a, t, g => by rw [List.cons_append, greatests, mgrt_snoc a, greatests]
set_option maxRecDepth 100000 in
set_option maxHeartbeats 1000000 in
theorem mgrt_any : ∀ (t : Ta) (S : Nat → Prop) (w : World), RT w S t → (∀ b, S b → b < w.heap.size) →
    Calls Try.prog 26 #[t.val] w fun e w' => e = .returned (.int .i64 (greatest t.tr)) ∧ Below w.heap.size w w' := by
  intro t
  induction t using Ta.ind with
  | h t ih =>
    intro S w h hS
    cases t with
    | mk k r ra rc ast l sa sc mn mx z ix nm =>
      obtain ⟨⟨-, -, hll, -⟩, hN, hL⟩ := h.parts
      have IH := Lib.hid ih
      have HN := Lib.hid hN
      have HL := Lib.hid hL
      have HS := Lib.hid hS
      clear ih hL hS h
      simp only [Ta.val, Ta.vals, Ta.tr, greatest]
      have hb0 : Below w.heap.size w (w.alloc (.cells #[.int .i64 k, .slice ra r.length rc, .int .i64 ast, .slice sa l.length sc, .int .i64 mn, .int .i64 mx, .bool z, .int .i64 ix, .string nm] 28)) := (Below.refl _ _).alloc (Nat.le_refl _) _
      have hbl := Blk.new w 28 [.int .i64 k, .slice ra r.length rc, .int .i64 ast, .slice sa l.length sc, .int .i64 mn, .int .i64 mx, .bool z, .int .i64 ix, .string nm]
      have hsc := hN.1
      have hsc2 := hN.2.1
      have HB0 := Lib.hid hb0
      have HBL := Lib.hid hbl
      clear hb0 hbl hN
      have k7 : (w.alloc (.cells #[.int .i64 k, .slice ra r.length rc, .int .i64 ast, .slice sa l.length sc, .int .i64 mn, .int .i64 mx, .bool z, .int .i64 ix, .string nm] 28)).cell? ⟨w.heap.size, 7, none⟩ = some (.int .i64 ix) := HBL.out.cell 7
      have k3 : (w.alloc (.cells #[.int .i64 k, .slice ra r.length rc, .int .i64 ast, .slice sa l.length sc, .int .i64 mn, .int .i64 mx, .bool z, .int .i64 ix, .string nm] 28)).cell? ⟨w.heap.size, 3, none⟩ = some (.slice sa l.length sc) := HBL.out.cell 3
      go_enter Try.func26, Try.ntmps26
      go_wp2_with fail
      generalize w.alloc (.cells #[.int .i64 k, .slice ra r.length rc, .int .i64 ast, .slice sa l.length sc, .int .i64 mn, .int .i64 mx, .bool z, .int .i64 ix, .string nm] 28) = w1 at *
      go_loopw [3, 11] (fun lv iv wr => ∃ (i : Nat), i ≤ l.length ∧ iv = .int .i64 (i : Int) ∧ lv = .int .i64 (greatests (trs (l.take i)) ix) ∧ Below w1.heap.size w1 wr) (fun _ iv _ => l.length - (intOf iv).toNat)
      case atStart => exact ⟨0, Nat.zero_le _, rfl, by rw [List.take_zero, trs, greatests], Below.refl _ _⟩
      case round =>
        obtain ⟨i, hi, rfl, rfl, hb⟩ := hrel
        have HB := Lib.hid hb
        clear hb
        by_cases hlt : i < l.length
        · have hlt2 : (i : Int) < (l.length : Int) := by omega
          obtain ⟨b, off, rfl, hSb, _⟩ := HN.out.2.2.2.2 (by omega)
          obtain ⟨u, hu⟩ : ∃ u, l[i]? = some u := ⟨_, List.getElem?_eq_getElem hlt⟩
          have hum : u ∈ l := List.mem_of_getElem? hu
          have hbb := HS.out b hSb
          have hbw := HB0.out.trans (HB.out.mono HB0.out.size)
          have hcell : ∀ j, j < 9 → wr.cell? ⟨b, off + i * 9 + j, none⟩ = u.vals[j]? := fun j hj => by
            rw [Nat.add_assoc, ← HN.out.node hu hj]
            exact hbw.cell (p := ⟨b, off + (i * 9 + j), none⟩) hbb
          have hba : Below wr.heap.size wr (wr.alloc (.cells u.vals.toArray 28)) := (Below.refl _ _).alloc (Nat.le_refl _) _
          have hin := IH.out u hum S (wr.alloc (.cells u.vals.toArray 28)) ((HL.out u hum).below HS.out (hbw.trans (hba.mono hbw.size))) (fun b hb => Nat.lt_of_lt_of_le (HS.out b hb) (Nat.le_trans hbw.size hba.size))
          have HST := Lib.hid (show greatests (trs (l.take (i + 1))) ix = max (greatests (trs (l.take i)) ix) (greatest u.tr) from by rw [List.take_add_one, hu, trs_map, trs_map, List.map_append]; exact mgrt_snoc _ _ _)
          have HBA := Lib.hid hba
          have HUB := Lib.hid (Blk.new wr 28 u.vals)
          generalize greatest u.tr = gu at *
          generalize greatests (trs (l.take i)) ix = gq at *
          cases u with
          | mk k' r' ra' rc' a' l' sa' sc' n' m' z' i' s' =>
          simp only [Ta.vals] at hcell HBA HUB
          simp only [Ta.val, Ta.vals] at hin
          have c0 := hcell 0 (by omega)
          have c1' := hcell 1 (by omega)
          have c2' := hcell 2 (by omega)
          have c3 := hcell 3 (by omega)
          have c4 := hcell 4 (by omega)
          have c5 := hcell 5 (by omega)
          have c6 := hcell 6 (by omega)
          have c7 := hcell 7 (by omega)
          have c8 := hcell 8 (by omega)
          simp only [List.getElem?_cons_zero, List.getElem?_cons_succ, Nat.add_zero] at c0 c1' c2' c3 c4 c5 c6 c7 c8
          have HIN := Lib.hid hin
          clear hin hcell hu hba hbw hum
          go_wp2_with (go_at_call 26; refine HIN.out.mono ?_; rintro e w2 ⟨rfl, hb2⟩; have HB2 := Lib.hid hb2; clear hb2; simp only [])
          go_roundw
          case rel =>
            exact ⟨i + 1, by omega, by go_num, by rw [HST.out]; exact congrArg (Value.int .i64) (by show (if gq < gu then gu else gq) = max gq gu; omega), HB.out.trans ((HBA.out.trans (HB2.out.mono HBA.out.size)).mono HB.out.size)⟩
          case measure => simp [intOf]; omega
        · obtain rfl : i = l.length := by omega
          have hlt2 : ¬ ((l.length : Int) < (l.length : Int)) := by omega
          go_wp2_with fail
          go_ret
          exact ⟨rfl, HB0.out.trans (HB.out.mono HB0.out.size)⟩
end Go.Proofs.Ytjeljlgjkjeloaa
