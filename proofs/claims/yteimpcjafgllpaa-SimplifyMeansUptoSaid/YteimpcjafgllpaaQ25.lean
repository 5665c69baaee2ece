/- The greatest Index of a tree: heron/meaning.greatest. -/
import Derived.Test.YteimpcjafgllpaaQ13
import Derived.Test.YteimpcjafgllpaaQ14
namespace Go.Proofs.Yteimpcjafgllpaa
open Go.RowKit Go.Proofs.Yteimpcjafgllpaa.Tr
theorem mgrt_snoc : ∀ (a : List Tr.Tr) (t : Tr.Tr) (g : Int), greatests (a ++ [t]) g = max (greatests a g) (greatest t)
  | [], t, g => by rw [List.nil_append, greatests, greatests, greatests]
  | x :: a, t, g => by rw [List.cons_append, greatests, mgrt_snoc a, greatests]
set_option maxRecDepth 100000 in
set_option maxHeartbeats 1000000 in
theorem mgrt_any : ∀ (t : Ta) (S : Nat → Prop) (w : World), RT w S t → (∀ b, S b → b < w.heap.size) →
    Calls Try.prog 24 #[t.val] w fun e w' => e = .returned (.int .i64 (greatest t.tr)) ∧ Below w.heap.size w w' := by
  intro t
  induction t using Ta.ind with
  | h t ih =>
    intro S w h hS
    cases t with
    | mk k r ra rc ast l sa sc mn mx z ix nm =>
      obtain ⟨⟨-, -, hll, -⟩, hN, hL⟩ := h.parts
      have IH := Lib.hid ih
      have HN := Lib.hid hN
      have HL := Lib.hid hL
      have HS := Lib.hid hS
      clear ih hL hS h
      simp only [Ta.val, Ta.vals, Ta.tr, greatest]
      have hb0 : Below w.heap.size w (w.alloc (.cells #[.int .i64 k, .slice ra r.length rc, .int .i64 ast, .slice sa l.length sc, .int .i64 mn, .int .i64 mx, .bool z, .int .i64 ix, .string nm] 25)) := (Below.refl _ _).alloc (Nat.le_refl _) _
      have hbl := Blk.new w 25 [.int .i64 k, .slice ra r.length rc, .int .i64 ast, .slice sa l.length sc, .int .i64 mn, .int .i64 mx, .bool z, .int .i64 ix, .string nm]
      have hsc := hN.1
      have hsc2 := hN.2.1
      have HB0 := Lib.hid hb0
      have HBL := Lib.hid hbl
      clear hb0 hbl hN
      have k7 : (w.alloc (.cells #[.int .i64 k, .slice ra r.length rc, .int .i64 ast, .slice sa l.length sc, .int .i64 mn, .int .i64 mx, .bool z, .int .i64 ix, .string nm] 25)).cell? ⟨w.heap.size, 7, none⟩ = some (.int .i64 ix) := HBL.out.cell 7
      have k3 : (w.alloc (.cells #[.int .i64 k, .slice ra r.length rc, .int .i64 ast, .slice sa l.length sc, .int .i64 mn, .int .i64 mx, .bool z, .int .i64 ix, .string nm] 25)).cell? ⟨w.heap.size, 3, none⟩ = some (.slice sa l.length sc) := HBL.out.cell 3
      go_enter Try.func24, Try.ntmps24
      go_wp2_with fail
      generalize w.alloc (.cells #[.int .i64 k, .slice ra r.length rc, .int .i64 ast, .slice sa l.length sc, .int .i64 mn, .int .i64 mx, .bool z, .int .i64 ix, .string nm] 25) = w1 at *
      go_loopw [3, 11] (fun lv iv wr => ∃ (i : Nat), i ≤ l.length ∧ iv = .int .i64 (i : Int) ∧ lv = .int .i64 (greatests (trs (l.take i)) ix) ∧ Below w1.heap.size w1 wr) (fun _ iv _ => l.length - (intOf iv).toNat)
      case atStart => exact ⟨0, Nat.zero_le _, rfl, by rw [List.take_zero, trs, greatests], Below.refl _ _⟩
      case round =>
        obtain ⟨i, hi, rfl, rfl, hb⟩ := hrel
        have HB := Lib.hid hb
        clear hb
        by_cases hlt : i < l.length
        · have hlt2 : (i : Int) < (l.length : Int) := by omega
          obtain ⟨b, off, rfl, hSb, _⟩ := HN.out.2.2.2.2 (by omega)
          obtain ⟨u, hu⟩ : ∃ u, l[i]? = some u := ⟨_, List.getElem?_eq_getElem hlt⟩
          have hum : u ∈ l := List.mem_of_getElem? hu
          have hbb := HS.out b hSb
          have hbw := HB0.out.trans (HB.out.mono HB0.out.size)
          have hcell : ∀ j, j < 9 → wr.cell? ⟨b, off + i * 9 + j, none⟩ = u.vals[j]? := fun j hj => by
            rw [Nat.add_assoc, ← HN.out.node hu hj]
            exact hbw.cell (p := ⟨b, off + (i * 9 + j), none⟩) hbb
          have hba : Below wr.heap.size wr (wr.alloc (.cells u.vals.toArray 25)) := (Below.refl _ _).alloc (Nat.le_refl _) _
          have hin := IH.out u hum S (wr.alloc (.cells u.vals.toArray 25)) ((HL.out u hum).below HS.out (hbw.trans (hba.mono hbw.size))) (fun b hb => Nat.lt_of_lt_of_le (HS.out b hb) (Nat.le_trans hbw.size hba.size))
          have HST := Lib.hid (show greatests (trs (l.take (i + 1))) ix = max (greatests (trs (l.take i)) ix) (greatest u.tr) from by rw [List.take_add_one, hu, trs_map, trs_map, List.map_append]; exact mgrt_snoc _ _ _)
          have HBA := Lib.hid hba
          have HUB := Lib.hid (Blk.new wr 25 u.vals)
          generalize greatest u.tr = gu at *
          generalize greatests (trs (l.take i)) ix = gq at *
          cases u with
          | mk k' r' ra' rc' a' l' sa' sc' n' m' z' i' s' =>
          simp only [Ta.vals] at hcell HBA HUB
          simp only [Ta.val, Ta.vals] at hin
          have c0 := hcell 0 (by omega)
          have c1' := hcell 1 (by omega)
          have c2' := hcell 2 (by omega)
          have c3 := hcell 3 (by omega)
          have c4 := hcell 4 (by omega)
          have c5 := hcell 5 (by omega)
          have c6 := hcell 6 (by omega)
          have c7 := hcell 7 (by omega)
          have c8 := hcell 8 (by omega)
          simp only [List.getElem?_cons_zero, List.getElem?_cons_succ, Nat.add_zero] at c0 c1' c2' c3 c4 c5 c6 c7 c8
          have HIN := Lib.hid hin
          clear hin hcell hu hba hbw hum
          go_wp2_with (go_at_call 24; refine HIN.out.mono ?_; rintro e w2 ⟨rfl, hb2⟩; have HB2 := Lib.hid hb2; clear hb2; simp only [])
          go_roundw
          case rel =>
            exact ⟨i + 1, by omega, by go_num, by rw [HST.out]; exact congrArg (Value.int .i64) (by show (if gq < gu then gu else gq) = max gq gu; omega), HB.out.trans ((HBA.out.trans (HB2.out.mono HBA.out.size)).mono HB.out.size)⟩
          case measure => simp [intOf]; omega
        · obtain rfl : i = l.length := by omega
          have hlt2 : ¬ ((l.length : Int) < (l.length : Int)) := by omega
          go_wp2_with fail
          go_ret
          exact ⟨rfl, HB0.out.trans (HB.out.mono HB0.out.size)⟩
end Go.Proofs.Yteimpcjafgllpaa
namespace Go.Proofs.Yteimpcjafgllpaa
open Go.RowKit Go.Proofs.Yteimpcjafgllpaa.Tr
set_option maxRecDepth 100000 in
set_option maxHeartbeats 2000000 in
theorem rgrt_any : ∀ (t : Ta) (S : Nat → Prop) (w : World), RT w S t → (∀ b, S b → b < w.heap.size) →
    Calls Try.prog 15 #[t.val] w fun e w' => e = .returned (.int .i64 (greatest t.tr)) ∧ Below w.heap.size w w' := by
  intro t
  induction t using Ta.ind with
  | h t ih =>
    intro S w h hS
    cases t with
    | mk k r ra rc ast l sa sc mn mx z ix nm =>
      obtain ⟨⟨-, -, hll, -⟩, hN, hL⟩ := h.parts
      have IH := Lib.hid ih
      have HN := Lib.hid hN
      have HL := Lib.hid hL
      have HS := Lib.hid hS
      clear ih hL hS h
      simp only [Ta.val, Ta.vals, Ta.tr, greatest]
      have hb0 : Below w.heap.size w (w.alloc (.cells #[.int .i64 k, .slice ra r.length rc, .int .i64 ast, .slice sa l.length sc, .int .i64 mn, .int .i64 mx, .bool z, .int .i64 ix, .string nm] 25)) := (Below.refl _ _).alloc (Nat.le_refl _) _
      have hbl := Blk.new w 25 [.int .i64 k, .slice ra r.length rc, .int .i64 ast, .slice sa l.length sc, .int .i64 mn, .int .i64 mx, .bool z, .int .i64 ix, .string nm]
      have hsc := hN.1
      have hsc2 := hN.2.1
      have HB0 := Lib.hid hb0
      have HBL := Lib.hid hbl
      clear hb0 hbl hN
      have k7 : (w.alloc (.cells #[.int .i64 k, .slice ra r.length rc, .int .i64 ast, .slice sa l.length sc, .int .i64 mn, .int .i64 mx, .bool z, .int .i64 ix, .string nm] 25)).cell? ⟨w.heap.size, 7, none⟩ = some (.int .i64 ix) := HBL.out.cell 7
      go_enter Try.func15, Try.ntmps15
      go_wp2_with fail
      generalize (w.alloc (.cells #[.int .i64 k, .slice ra r.length rc, .int .i64 ast, .slice sa l.length sc, .int .i64 mn, .int .i64 mx, .bool z, .int .i64 ix, .string nm] 25)) = w1 at *
      go_loopw [3, 4] (fun lv iv wr => ∃ (i : Nat), i ≤ l.length ∧ iv = .int .i64 (i : Int) ∧ lv = .int .i64 (greatests (trs (l.take i)) ix) ∧ Below w1.heap.size w1 wr) (fun _ iv _ => l.length - (intOf iv).toNat)
      case atStart => exact ⟨0, Nat.zero_le _, rfl, by rw [List.take_zero, trs, greatests], Below.refl _ _⟩
      case round =>
        obtain ⟨i, hi, rfl, rfl, hb⟩ := hrel
        have HB := Lib.hid hb
        have HBW := Lib.hid (HBL.out.below hb HBL.out.lt)
        have r3 : wr.cell? ⟨w.heap.size, 3, none⟩ = some (.slice sa l.length sc) := HBW.out.cell 3
        clear hb
        by_cases hlt : i < l.length
        · have hlt2 : (i : Int) < (l.length : Int) := by omega
          obtain ⟨b, off, rfl, hSb, _⟩ := HN.out.2.2.2.2 (by omega)
          obtain ⟨u, hu⟩ : ∃ u, l[i]? = some u := ⟨_, List.getElem?_eq_getElem hlt⟩
          have hum : u ∈ l := List.mem_of_getElem? hu
          have hbb := HS.out b hSb
          have hbw := HB0.out.trans (HB.out.mono HB0.out.size)
          have hcell : ∀ j, j < 9 → wr.cell? ⟨b, off + i * 9 + j, none⟩ = u.vals[j]? := fun j hj => by
            rw [Nat.add_assoc, ← HN.out.node hu hj]
            exact hbw.cell (p := ⟨b, off + (i * 9 + j), none⟩) hbb
          have hin := IH.out u hum S wr ((HL.out u hum).below HS.out hbw) (fun b hb => Nat.lt_of_lt_of_le (HS.out b hb) hbw.size)
          have HST := Lib.hid (show greatests (trs (l.take (i + 1))) ix = max (greatests (trs (l.take i)) ix) (greatest u.tr) from by rw [List.take_add_one, hu, trs_map, trs_map, List.map_append]; exact mgrt_snoc _ _ _)
          generalize greatest u.tr = gu at *
          generalize greatests (trs (l.take i)) ix = gq at *
          cases u with
          | mk k' r' ra' rc' a' l' sa' sc' n' m' z' i' s' =>
          simp only [Ta.vals] at hcell
          simp only [Ta.val, Ta.vals] at hin
          have c0 := hcell 0 (by omega)
          have c1' := hcell 1 (by omega)
          have c2' := hcell 2 (by omega)
          have c3 := hcell 3 (by omega)
          have c4 := hcell 4 (by omega)
          have c5 := hcell 5 (by omega)
          have c6 := hcell 6 (by omega)
          have c7 := hcell 7 (by omega)
          have c8 := hcell 8 (by omega)
          simp only [List.getElem?_cons_zero, List.getElem?_cons_succ, Nat.add_zero] at c0 c1' c2' c3 c4 c5 c6 c7 c8
          have HIN := Lib.hid hin
          clear hin hcell hu hbw hum
          go_wp2_with (go_at_call 15; refine HIN.out.mono ?_; rintro e w2 ⟨rfl, hb2⟩; have HB2 := Lib.hid hb2; clear hb2; simp only [])
          go_roundw
          case rel =>
            exact ⟨i + 1, by omega, by go_num, by rw [HST.out]; exact congrArg (Value.int .i64) (by show (if gq < gu then gu else gq) = max gq gu; omega), HB.out.trans (HB2.out.mono HB.out.size)⟩
          case measure => simp [intOf]; omega
        · obtain rfl : i = l.length := by omega
          have hlt2 : ¬ ((l.length : Int) < (l.length : Int)) := by omega
          go_wp2_with fail
          go_ret
          exact ⟨rfl, HB0.out.trans (HB.out.mono HB0.out.size)⟩
end Go.Proofs.Yteimpcjafgllpaa
namespace Go.Proofs.Yteimpcjafgllpaa
open Go.RowKit Go.Proofs.Yteimpcjafgllpaa.Tr
theorem rmul_sat {a N : Nat} : min (a * min N 1073741824 + 1) 1073741824 = min (a * N + 1) 1073741824 := by
  by_cases h : N ≤ 1073741824
  · rw [show min N 1073741824 = N from by omega]
  · rw [show min N 1073741824 = 1073741824 from by omega]
    rcases Nat.eq_zero_or_pos a with rfl | ha
    · simp
    · have h1 : 1073741824 ≤ a * 1073741824 := Nat.le_mul_of_pos_left _ ha
      have h2 : 1073741824 ≤ a * N := Nat.le_trans (by omega) (Nat.le_mul_of_pos_left N ha)
      omega
theorem rmul_sat2 {a b N : Nat} : min (max 1 (a * min N 1073741824 + b * (1 + min N 1073741824))) 1073741824 = min (max 1 (a * N + b * (1 + N))) 1073741824 := by
  by_cases h : N ≤ 1073741824
  · rw [show min N 1073741824 = N from by omega]
  · rw [show min N 1073741824 = 1073741824 from by omega]
    by_cases hab : a = 0 ∧ b = 0
    · simp only [hab.1, hab.2, Nat.zero_mul]
    · have h1 : 1073741824 ≤ a * 1073741824 + b * (1 + 1073741824) := by
        rcases Nat.eq_zero_or_pos a with rfl | ha
        · have hb : 0 < b := by omega
          rw [Nat.zero_mul, Nat.zero_add]
          exact Nat.le_trans (by decide) (Nat.le_mul_of_pos_left (1 + 1073741824) hb)
        · exact Nat.le_trans (Nat.le_mul_of_pos_left 1073741824 ha) (Nat.le_add_right _ _)
      have h2 : 1073741824 ≤ a * N + b * (1 + N) := by
        have e1 : a * 1073741824 ≤ a * N := Nat.mul_le_mul_left _ (by omega)
        have e2 : b * (1 + 1073741824) ≤ b * (1 + N) := Nat.mul_le_mul_left _ (by omega)
        omega
      omega
set_option maxRecDepth 100000 in
set_option maxHeartbeats 2000000 in
theorem rsize_any : ∀ (t : Ta) (S : Nat → Prop) (w : World), RT w S t → allB t.tr = true → (∀ b, S b → b < w.heap.size) →
    Calls Try.prog 14 #[t.val] w fun e w' => e = .returned (.int .i64 ((min (uz t.tr) 1073741824 : Nat) : Int)) ∧ Below w.heap.size w w' := by
  intro t
  induction t using Ta.ind with
  | h t ih =>
    intro S w h hall hS
    cases t with
    | mk k r ra rc ast l sa sc mn mx z ix nm =>
      obtain ⟨⟨-, -, hll, -⟩, hN, hL⟩ := h.parts
      have IH := Lib.hid ih
      have HN := Lib.hid hN
      have HL := Lib.hid hL
      have HS := Lib.hid hS
      clear ih hL hS h
      obtain ⟨hnb, hsb⟩ := (allB_iff _).1 hall
      rw [Ta.tr_subs] at hsb
      have HSB := Lib.hid (show ∀ u ∈ l, allB u.tr = true from fun u hu => hsb _ (List.mem_map.2 ⟨u, hu, rfl⟩))
      have HNB := Lib.hid hnb
      clear hnb hsb hall
      obtain ⟨T, hT⟩ : ∃ T, T = min (uz (Ta.mk k r ra rc ast l sa sc mn mx z ix nm).tr) 1073741824 := ⟨_, rfl⟩
      rw [← hT]
      have HT := Lib.hid hT
      clear hT
      simp only [Ta.val, Ta.vals]
      have hb0 : Below w.heap.size w (w.alloc (.cells #[.int .i64 k, .slice ra r.length rc, .int .i64 ast, .slice sa l.length sc, .int .i64 mn, .int .i64 mx, .bool z, .int .i64 ix, .string nm] 25)) := (Below.refl _ _).alloc (Nat.le_refl _) _
      have hbl := Blk.new w 25 [.int .i64 k, .slice ra r.length rc, .int .i64 ast, .slice sa l.length sc, .int .i64 mn, .int .i64 mx, .bool z, .int .i64 ix, .string nm]
      have hsc := hN.1
      have hsc2 := hN.2.1
      have HB0 := Lib.hid hb0
      have HBL := Lib.hid hbl
      clear hb0 hbl hN
      go_enter Try.func14, Try.ntmps14
      go_wp2_with fail
      generalize (w.alloc (.cells #[.int .i64 k, .slice ra r.length rc, .int .i64 ast, .slice sa l.length sc, .int .i64 mn, .int .i64 mx, .bool z, .int .i64 ix, .string nm] 25)) = w1 at *
      go_loopw [3, 4] (fun lv iv wr => ∃ (i : Nat), i ≤ l.length ∧ iv = .int .i64 (i : Int) ∧ lv = .int .i64 ((min (uzs (trs (l.take i))) 1073741824 : Nat) : Int) ∧ Below w1.heap.size w1 wr) (fun _ iv _ => l.length - (intOf iv).toNat)
      case atStart => exact ⟨0, Nat.zero_le _, rfl, by rw [List.take_zero, trs, uzs]; rfl, Below.refl _ _⟩
      case round =>
        obtain ⟨i, hi, rfl, rfl, hb⟩ := hrel
        have HB := Lib.hid hb
        have HBW := Lib.hid (HBL.out.below hb HBL.out.lt)
        have r3 : wr.cell? ⟨w.heap.size, 3, none⟩ = some (.slice sa l.length sc) := HBW.out.cell 3
        clear hb
        by_cases hlt : i < l.length
        · have hlt2 : (i : Int) < (l.length : Int) := by omega
          obtain ⟨b, off, rfl, hSb, _⟩ := HN.out.2.2.2.2 (by omega)
          obtain ⟨u, hu⟩ : ∃ u, l[i]? = some u := ⟨_, List.getElem?_eq_getElem hlt⟩
          have hum : u ∈ l := List.mem_of_getElem? hu
          have hbb := HS.out b hSb
          have hbw := HB0.out.trans (HB.out.mono HB0.out.size)
          have hcell : ∀ j, j < 9 → wr.cell? ⟨b, off + i * 9 + j, none⟩ = u.vals[j]? := fun j hj => by
            rw [Nat.add_assoc, ← HN.out.node hu hj]
            exact hbw.cell (p := ⟨b, off + (i * 9 + j), none⟩) hbb
          have hin := IH.out u hum S wr ((HL.out u hum).below HS.out hbw) (HSB.out u hum) (fun b hb => Nat.lt_of_lt_of_le (HS.out b hb) hbw.size)
          have HST := Lib.hid (uzs_snoc hu)
          generalize uz u.tr = gu at *
          generalize uzs (trs (l.take i)) = gq at *
          have hw1 : IntKind.i64.wrap (((min gq 1073741824 : Nat) : Int) + ((min gu 1073741824 : Nat) : Int)) = ((min gq 1073741824 : Nat) : Int) + ((min gu 1073741824 : Nat) : Int) := by rw [IntKind.wrap_i64]; omega
          cases u with
          | mk k' r' ra' rc' a' l' sa' sc' n' m' z' i' s' =>
          simp only [Ta.vals] at hcell
          simp only [Ta.val, Ta.vals] at hin
          have c0 := hcell 0 (by omega)
          have c1' := hcell 1 (by omega)
          have c2' := hcell 2 (by omega)
          have c3 := hcell 3 (by omega)
          have c4 := hcell 4 (by omega)
          have c5 := hcell 5 (by omega)
          have c6 := hcell 6 (by omega)
          have c7 := hcell 7 (by omega)
          have c8 := hcell 8 (by omega)
          simp only [List.getElem?_cons_zero, List.getElem?_cons_succ, Nat.add_zero] at c0 c1' c2' c3 c4 c5 c6 c7 c8
          have HIN := Lib.hid hin
          clear hin hcell hu hbw hum
          go_wp2_with (go_at_call 14; refine HIN.out.mono ?_; rintro e w2 ⟨rfl, hb2⟩; have HB2 := Lib.hid hb2; clear hb2; simp only [])
          go_roundw
          case rel =>
            exact ⟨i + 1, by omega, by go_num, by rw [HST.out]; exact congrArg (Value.int .i64) (by split <;> omega), HB.out.trans (HB2.out.mono HB.out.size)⟩
          case measure => simp [intOf]; omega
        · obtain rfl : i = l.length := by omega
          have hlt2 : ¬ ((l.length : Int) < (l.length : Int)) := by omega
          rw [List.take_length] at *
          have hBW := Lib.hid (HB0.out.trans (HB.out.mono HB0.out.size))
          have z0 : wr.cell? ⟨w.heap.size, 0, none⟩ = some (.int .i64 k) := HBW.out.cell 0
          have z4 : wr.cell? ⟨w.heap.size, 4, none⟩ = some (.int .i64 mn) := HBW.out.cell 4
          have z5 : wr.cell? ⟨w.heap.size, 5, none⟩ = some (.int .i64 mx) := HBW.out.cell 5
          have ht := HT.out
          unfold Ta.tr uz at ht
          obtain ⟨N, hN⟩ : ∃ N, N = uzs (trs l) := ⟨_, rfl⟩
          have HNN := Lib.hid hN
          rw [← hN] at ht ⊢
          have hm2 : min N 1073741824 ≤ 1073741824 := Nat.min_le_right _ _
          clear hN
          have hnb := HNB.out
          unfold Ta.tr nodeB at hnb
          by_cases hk : k = 6
          · subst hk
            unfold nodeF at hnb
            simp only [reduceIte, Int.reduceEq, Bool.and_eq_true, Bool.or_eq_true, decide_eq_true_eq, beq_iff_eq] at hnb
            obtain ⟨-, -, hn0, hn1, hmx⟩ := hnb
            rw [if_neg (by simp)] at ht
            obtain ⟨m0, rfl⟩ : ∃ m0 : Nat, mn = (m0 : Int) := ⟨mn.toNat, by omega⟩
            obtain ⟨b, hb⟩ : ∃ b : Nat, b = min N 1073741824 := ⟨_, rfl⟩
            by_cases hm : mx = -1
            · subst hm
              rw [if_pos rfl, ← rmul_sat, ← hb, Int.toNat_natCast] at ht
              rw [← hb]
              by_cases hm1 : m0 = 0
              · subst hm1
                obtain ⟨v, hv⟩ : ∃ v : Int, v = 1 + (b : Int) := ⟨_, rfl⟩
                have hw1 : IntKind.i64.wrap (1 + (b : Int)) = v := by rw [IntKind.wrap_i64]; omega
                have HV := Lib.hid hv
                have ht2 : T = min (b + 1) 1073741824 := by rw [show max 0 1 = 1 from rfl, Nat.one_mul] at ht; exact ht
                have HTT := Lib.hid ht2
                clear hb hm2 ht ht2 hv
                go_wp2_with fail
                all_goals go_ret
                all_goals exact ⟨congrArg (fun z => Ending.returned (Value.int .i64 z)) (by have := HTT.out; have := HV.out; first | omega | (split <;> omega)), hBW.out⟩
              · have hm3 : ((m0 : Int) == 0) = false := beq_eq_false_iff_ne.2 (by omega)
                obtain ⟨p, hp⟩ : ∃ p : Nat, p = m0 * b := ⟨_, rfl⟩
                have hpb : p ≤ 1000 * 1073741824 := hp ▸ Nat.mul_le_mul (by omega) (by omega)
                rw [show max m0 1 = m0 from by omega, ← hp] at ht
                have hw1 : IntKind.i64.wrap ((m0 : Int) * (b : Int)) = (p : Int) := by rw [show (m0 : Int) * (b : Int) = (p : Int) from by rw [hp]; simp, IntKind.wrap_i64]; omega
                obtain ⟨v, hv⟩ : ∃ v : Int, v = (p : Int) + 1 := ⟨_, rfl⟩
                have hw2 : IntKind.i64.wrap ((p : Int) + 1) = v := by rw [IntKind.wrap_i64]; omega
                have HV := Lib.hid hv
                have HTT := Lib.hid ht
                clear hb hm2 hp ht hm1 hv
                go_wp2_with fail
                all_goals go_ret
                all_goals exact ⟨congrArg (fun z => Ending.returned (Value.int .i64 z)) (by have := HTT.out; have := HV.out; first | omega | (split <;> omega)), hBW.out⟩
            · rcases hmx with hmx | hmx
              · exact absurd hmx hm
              obtain ⟨m1, rfl⟩ : ∃ m1 : Nat, mx = (m1 : Int) := ⟨mx.toNat, by omega⟩
              rw [if_neg hm, ← rmul_sat2, ← hb, Int.toNat_natCast] at ht
              rw [← hb]
              obtain ⟨d, hd⟩ : ∃ d : Nat, (m1 : Int) - (m0 : Int) = (d : Int) := ⟨((m1 : Int) - (m0 : Int)).toNat, by omega⟩
              rw [hd, Int.toNat_natCast] at ht
              obtain ⟨p, hp⟩ : ∃ p : Nat, p = m0 * b := ⟨_, rfl⟩
              obtain ⟨q, hq⟩ : ∃ q : Nat, q = d * (1 + b) := ⟨_, rfl⟩
              have hpb : p ≤ 1000 * 1073741824 := hp ▸ Nat.mul_le_mul (by omega) (by omega)
              have hqb : q ≤ 1000 * (1 + 1073741824) := hq ▸ Nat.mul_le_mul (by omega) (by omega)
              rw [← hp, ← hq] at ht
              have hw1 : IntKind.i64.wrap ((m0 : Int) * (b : Int)) = (p : Int) := by rw [show (m0 : Int) * (b : Int) = (p : Int) from by rw [hp]; simp, IntKind.wrap_i64]; omega
              have hw2 : IntKind.i64.wrap ((m1 : Int) - (m0 : Int)) = (d : Int) := by rw [hd, IntKind.wrap_i64]; omega
              have hw3 : IntKind.i64.wrap (1 + (b : Int)) = 1 + (b : Int) := by rw [IntKind.wrap_i64]; omega
              have hw4 : IntKind.i64.wrap ((d : Int) * (1 + (b : Int))) = (q : Int) := by rw [show (d : Int) * (1 + (b : Int)) = (q : Int) from by rw [hq]; simp, IntKind.wrap_i64]; omega
              have hw5 : IntKind.i64.wrap ((p : Int) + (q : Int)) = (p : Int) + (q : Int) := by rw [IntKind.wrap_i64]; omega
              have hm4 : ¬ ((m1 : Int) < 0) := by omega
              have HTT := Lib.hid ht
              clear hb hp hq hd hm2 ht
              go_wp2_with fail
              all_goals go_ret
              all_goals exact ⟨congrArg (fun z => Ending.returned (Value.int .i64 z)) (by have := HTT.out; first | omega | (split <;> omega)), hBW.out⟩
          · have hk2 : (k == 6) = false := beq_eq_false_iff_ne.2 hk
            rw [if_pos hk] at ht
            have hw1 : IntKind.i64.wrap (1 + ((min N 1073741824 : Nat) : Int)) = 1 + ((min N 1073741824 : Nat) : Int) := by rw [IntKind.wrap_i64]; omega
            obtain ⟨b, hb⟩ : ∃ b : Nat, b = min N 1073741824 := ⟨_, rfl⟩
            have ht2 : T = min (b + 1) 1073741824 := by omega
            have hsub : k ≠ 4 → k ≠ 5 → k ≠ 7 → b = 0 := fun h4 h5 h7 => by
              have : (trs l).length = 0 := by
                dsimp only at hnb
                unfold nodeF at hnb
                repeat' split at hnb
                all_goals first
                  | exact absurd (by assumption) h4
                  | exact absurd (by assumption) h5
                  | exact absurd (by assumption) h7
                  | exact absurd (by assumption) hk
                  | cases hnb
                  | (simp only [Bool.and_eq_true, beq_iff_eq] at hnb; exact hnb.2.1)
                  | (simp only [Bool.and_eq_true, beq_iff_eq] at hnb; exact hnb.2)
              have h0 : trs l = [] := List.eq_nil_of_length_eq_zero this
              rw [hb, HNN.out, h0, uzs]; rfl
            rw [← hb] at hw1 ⊢
            obtain ⟨v, hv⟩ : ∃ v : Int, v = 1 + (b : Int) := ⟨_, rfl⟩
            replace hw1 : IntKind.i64.wrap (1 + (b : Int)) = v := by rw [hw1, hv]
            have HV := Lib.hid hv
            have HTT := Lib.hid ht2
            have HSUB := Lib.hid hsub
            clear hb ht ht2 hm2 hnb hsub hv
            by_cases h4 : k = 4
            · subst h4
              go_wp2_with fail
              all_goals go_ret
              all_goals exact ⟨congrArg (fun z => Ending.returned (Value.int .i64 z)) (by have := HTT.out; have := HV.out; first | omega | (split <;> omega)), hBW.out⟩
            by_cases h5 : k = 5
            · subst h5
              go_wp2_with fail
              all_goals go_ret
              all_goals exact ⟨congrArg (fun z => Ending.returned (Value.int .i64 z)) (by have := HTT.out; have := HV.out; first | omega | (split <;> omega)), hBW.out⟩
            by_cases h7 : k = 7
            · subst h7
              go_wp2_with fail
              all_goals go_ret
              all_goals exact ⟨congrArg (fun z => Ending.returned (Value.int .i64 z)) (by have := HTT.out; have := HV.out; first | omega | (split <;> omega)), hBW.out⟩
            have g4 : (k == 4) = false := beq_eq_false_iff_ne.2 h4
            have g5 : (k == 5) = false := beq_eq_false_iff_ne.2 h5
            have g7 : (k == 7) = false := beq_eq_false_iff_ne.2 h7
            have HZ := Lib.hid (HSUB.out h4 h5 h7)
            go_wp2_with fail
            all_goals go_ret
            all_goals exact ⟨congrArg (fun z => Ending.returned (Value.int .i64 z)) (by have := HTT.out; have := HZ.out; omega), hBW.out⟩
end Go.Proofs.Yteimpcjafgllpaa
namespace Go.Proofs.Yteimpcjafgllpaa
open Go.RowKit Go.Proofs.Yteimpcjafgllpaa.Tr
theorem ar_w1 {q : Int} (h1 : 1 ≤ q) (h2 : q ≤ 1099511627776) : 1 ≤ wrap64 q ∧ wrap64 q ≤ 1099511627776 := by
  have e : wrap64 q = q := by unfold wrap64; omega
  rw [e]; exact ⟨h1, h2⟩
theorem ar_w {x q : Int} (hx : 1 ≤ x) (hq : 1 ≤ q) (h : x ≤ 1099511627776 / q) : 1 ≤ wrap64 (x * q) ∧ wrap64 (x * q) ≤ 1099511627776 := by
  have h1 : x * q ≤ 1099511627776 := Int.mul_le_of_le_ediv (by omega) h
  have h2 : 1 ≤ x * q := by
    have := Int.mul_le_mul hx hq (by decide) (by omega)
    simpa using this
  exact ar_w1 h2 h1
set_option maxRecDepth 100000 in
set_option maxHeartbeats 1000000 in
theorem weight_any : ∀ (t : Ta) (S : Nat → Prop) (w : World), RT w S t → (∀ b, S b → b < w.heap.size) →
    Calls Try.prog 12 #[t.val] w fun e w' => (∃ q : Int, 1 ≤ q ∧ q ≤ 1099511627776 ∧ e = .returned (.int .i64 q)) ∧ Below w.heap.size w w' := by
  intro t
  induction t using Ta.ind with
  | h t ih =>
    intro S w h hS
    cases t with
    | mk k r ra rc ast l sa sc mn mx z ix nm =>
      obtain ⟨⟨hR, hrl, hll⟩, hN, hL⟩ := h.parts
      have IH := Lib.hid ih
      have HN := Lib.hid hN
      have HL := Lib.hid hL
      have HS := Lib.hid hS
      clear ih hL hS h
      simp only [Ta.val, Ta.vals]
      have hb0 : Below w.heap.size w (w.alloc (.cells #[.int .i64 k, .slice ra r.length rc, .int .i64 ast, .slice sa l.length sc, .int .i64 mn, .int .i64 mx, .bool z, .int .i64 ix, .string nm] 25)) := (Below.refl _ _).alloc (Nat.le_refl _) _
      have hbl := Blk.new w 25 [.int .i64 k, .slice ra r.length rc, .int .i64 ast, .slice sa l.length sc, .int .i64 mn, .int .i64 mx, .bool z, .int .i64 ix, .string nm]
      have hsc := hN.1
      have hsc2 := hN.2.1
      have hrc := hR.1
      have hrc2 := hR.2.1
      have HB0 := Lib.hid hb0
      have HBL := Lib.hid hbl
      clear hb0 hbl hN hR
      go_enter Try.func12, Try.ntmps12
      go_wp2_with fail
      generalize w.alloc (.cells #[.int .i64 k, .slice ra r.length rc, .int .i64 ast, .slice sa l.length sc, .int .i64 mn, .int .i64 mx, .bool z, .int .i64 ix, .string nm] 25) = w1 at *
      go_loopw [3, 4] (fun nv iv wr => ∃ (i : Nat) (q : Int), i ≤ l.length ∧ iv = .int .i64 (i : Int) ∧ nv = .int .i64 q ∧ 1 ≤ q ∧ q ≤ 1099511627776 ∧ Below w1.heap.size w1 wr) (fun _ iv _ => l.length - (intOf iv).toNat)
      case atStart => exact ⟨0, 1 + (r.length : Int), Nat.zero_le _, rfl, by go_num, by omega, by omega, Below.refl _ _⟩
      case round =>
        obtain ⟨i, q, hi, rfl, rfl, hq1, hq2, hb⟩ := hrel
        have HB := Lib.hid hb
        have r0 : wr.cell? ⟨w.heap.size, 0, none⟩ = some (.int .i64 k) := (HBL.out.below hb HBL.out.lt).cell 0
        have r3 : wr.cell? ⟨w.heap.size, 3, none⟩ = some (.slice sa l.length sc) := (HBL.out.below hb HBL.out.lt).cell 3
        have r4 : wr.cell? ⟨w.heap.size, 4, none⟩ = some (.int .i64 mn) := (HBL.out.below hb HBL.out.lt).cell 4
        have r5 : wr.cell? ⟨w.heap.size, 5, none⟩ = some (.int .i64 mx) := (HBL.out.below hb HBL.out.lt).cell 5
        have r9 := (HBL.out.below hb HBL.out.lt).lt
        clear hb
        by_cases hlt : i < l.length
        · have hlt2 : (i : Int) < (l.length : Int) := by omega
          obtain ⟨b, off, rfl, hSb, _⟩ := HN.out.2.2.2.2 (by omega)
          obtain ⟨u, hu⟩ : ∃ u, l[i]? = some u := ⟨_, List.getElem?_eq_getElem hlt⟩
          have hum : u ∈ l := List.mem_of_getElem? hu
          have hbb := HS.out b hSb
          have hcell : ∀ j, j < 9 → wr.cell? ⟨b, off + i * 9 + j, none⟩ = u.vals[j]? := fun j hj => by
            rw [Nat.add_assoc]
            rw [← HN.out.node hu hj]
            exact ((HB0.out.trans (HB.out.mono HB0.out.size)).cell (p := ⟨b, off + (i * 9 + j), none⟩) hbb)
          have hin := (IH.out u hum S wr ((HL.out u hum).below HS.out (HB0.out.trans (HB.out.mono HB0.out.size))) (fun b hb => Nat.lt_of_lt_of_le (HS.out b hb) (Nat.le_trans HB0.out.size HB.out.size)))
          cases u with
          | mk k' r' ra' rc' a' l' sa' sc' n' m' z' i' s' =>
          simp only [Ta.vals] at hcell
          simp only [Ta.val, Ta.vals] at hin
          have c0 := hcell 0 (by omega)
          have c1 := hcell 1 (by omega)
          have c2 := hcell 2 (by omega)
          have c3 := hcell 3 (by omega)
          have c4 := hcell 4 (by omega)
          have c5 := hcell 5 (by omega)
          have c6 := hcell 6 (by omega)
          have c7 := hcell 7 (by omega)
          have c8 := hcell 8 (by omega)
          simp only [List.getElem?_cons_zero, List.getElem?_cons_succ, Nat.add_zero] at c0 c1 c2 c3 c4 c5 c6 c7 c8
          have HIN := Lib.hid hin
          clear hin hcell hu
          go_wp2_with (go_at_call 12; refine HIN.out.mono ?_; rintro e w2 ⟨⟨q2, hp1, hp2, rfl⟩, hb2⟩; have HB2 := Lib.hid hb2; clear hb2; simp only [])
          go_roundw
          case rel =>
            exact ⟨i + 1, min 1099511627776 (q + q2), by omega, by go_num, by go_num, by omega, by omega, HB.out.trans (HB2.out.mono HB.out.size)⟩
          case measure => simp [intOf]; omega
        · obtain rfl : i = l.length := by omega
          have hlt2 : ¬ ((l.length : Int) < (l.length : Int)) := by omega
          have hq0 : ¬ (q = 0) := by omega
          have hbb := HB0.out.trans (HB.out.mono HB0.out.size)
          have HBB := Lib.hid hbb
          clear hbb
          by_cases hk6 : k = 6
          all_goals
            go_wp2_with fail
          all_goals
            go_ret
            refine ⟨?_, HBB.out⟩
            first
              | exact ⟨_, by decide, by decide, rfl⟩
              | exact ⟨q, hq1, hq2, rfl⟩
              | exact ⟨_, (ar_w (x := mn) (by omega) hq1 (by omega)).1, (ar_w (x := mn) (by omega) hq1 (by omega)).2, rfl⟩
              | exact ⟨_, (ar_w (x := mx) (by omega) hq1 (by omega)).1, (ar_w (x := mx) (by omega) hq1 (by omega)).2, rfl⟩
              | exact ⟨_, (ar_w1 hq1 hq2).1, (ar_w1 hq1 hq2).2, rfl⟩
set_option maxHeartbeats 1000000 in
/-- Would a tree's simple form be too great to be held? Some answer. -/
theorem heavy_any (t : Ta) (S : Nat → Prop) (w : World) (h : RT w S t) (hS : ∀ b, S b → b < w.heap.size) :
    Calls Try.prog 5 #[t.val] w fun e w' => (∃ b : Bool, e = .returned (.bool b)) ∧ Below w.heap.size w w' := by
  have hb0 : Below w.heap.size w (w.alloc (.cells t.vals.toArray 25)) := (Below.refl _ _).alloc (Nat.le_refl _) _
  have HB0 := Lib.hid hb0
  have HG := Lib.hid (weight_any t S (w.alloc (.cells t.vals.toArray 25)) (h.below hS hb0) (fun b hb => Nat.lt_of_lt_of_le (hS b hb) hb0.size))
  clear h hS hb0
  cases t with
  | mk k r ra rc ast l sa sc mn mx z ix nm =>
  simp only [Ta.val, Ta.vals] at HG HB0 ⊢
  go_enter Try.func5, Try.ntmps5
  go_wp2_with (go_at_call 12; refine HG.out.mono ?_; rintro e w2 ⟨⟨q, hq1, hq2, rfl⟩, hb2⟩; have HB2 := Lib.hid hb2; clear hb2; simp only [])
  go_ret
  exact ⟨⟨_, rfl⟩, HB0.out.trans (HB2.out.mono HB0.out.size)⟩
end Go.Proofs.Yteimpcjafgllpaa
