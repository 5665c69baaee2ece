/- heronlaw05.great, Deep: how great a tree is. -/
import Derived.Test.YtjeljlgjkjeloaaQTree
import Derived.Test.YtjeljlgjkjeloaaQFlat
import Derived.Handy
import Derived.BigQuiet
import Derived.Deep.QuietTactic
namespace Go.Proofs.Ytjeljlgjkjeloaa
open Go.RowKit Go.Proofs.Ytjeljlgjkjeloaa.Tr

theorem sizes_take {l : List Ta} {i : Nat} {t : Ta} (h : l[i]? = some t) : sizes (trs (l.take (i + 1))) = sizes (trs (l.take i)) + size t.tr := by
  rw [List.take_add_one, h, trs_map, trs_map, List.map_append]
  have : ∀ a b : List Tr, sizes (a ++ b) = sizes a + sizes b := by
    intro a b
    induction a with
    | nil => simp [sizes]
    | cons x a ih => rw [List.cons_append, sizes, sizes, ih]; omega
  rw [this]; simp [sizes]
theorem sizes_take_le (l : List Ta) (i : Nat) : sizes (trs (l.take i)) ≤ sizes (trs l) := by
  have : ∀ a b : List Tr, sizes (a ++ b) = sizes a + sizes b := by
    intro a b
    induction a with
    | nil => simp [sizes]
    | cons x a ih => rw [List.cons_append, sizes, sizes, ih]; omega
  have e : sizes (trs l) = sizes (trs (l.take i)) + sizes (trs (l.drop i)) := by
    rw [trs_map, trs_map, trs_map, ← this, ← List.map_append, List.take_append_drop]
  omega
theorem Ta.tr_size (k : Int) (r : List (Int × Int)) (ra : Option Addr) (rc : Nat) (a : Int) (l : List Ta) (sa : Option Addr) (sc : Nat) (mn mx : Int) (z : Bool) (i : Int) (s : ByteArray) : size (Ta.mk k r ra rc a l sa sc mn mx z i s).tr = sizes (trs l) + 1 := by
  rw [Ta.tr, size]
/-- The cells of a list's member. -/
theorem RdA.node {w : World} {S : Nat → Prop} {b off c : Nat} {l : List Ta} {j : Nat} {t : Ta} (h : RdA w S 9 (some ⟨b, off, none⟩) l.length c (rowT l)) (ht : l[j]? = some t) {q : Nat} (hq : q < 9) : w.cell? ⟨b, off + (j * 9 + q), none⟩ = t.vals[q]? := by
  have hl : j < l.length := (List.getElem?_eq_some_iff.1 ht).1
  obtain ⟨b', off', e, _, hc⟩ := h.2.2.2.2 (by omega)
  simp only [Option.some.injEq, Addr.mk.injEq, and_true] at e
  obtain ⟨rfl, rfl⟩ := e
  have hg := rowT_get l j q t ht hq
  have hv : q < t.vals.length := by rw [Ta.vals_length]; exact hq
  rw [List.getElem?_eq_getElem hv] at hg ⊢
  exact hc _ _ hg

theorem ar_end {q left : Int} {s0 n sz : Nat} (hq : q = max (left - 1 - (s0 : Int)) (-1)) (hsz : sz = n + 1) (hle : s0 ≤ n) (h : q < 0 ∨ s0 = n) : q = max (left - (sz : Int)) (-1) := by omega
theorem ar_great {q left : Int} {s1 s0 d : Nat} (hq : q = max (left - 1 - (s0 : Int)) (-1)) (hs : s1 = s0 + d) (h0 : 0 ≤ q) : max (q - (d : Int)) (-1) = max (left - 1 - (s1 : Int)) (-1) := by omega
set_option maxRecDepth 100000 in
set_option maxHeartbeats 1000000 in
theorem great_any : ∀ (t : Ta) (S : Nat → Prop) (w : World) (left : Int), RT w S t → (∀ b, S b → b < w.heap.size) → 0 ≤ left → left ≤ 4194304 →
    Calls Try.prog 19 #[t.val, .int .i64 left] w fun e w' => e = .returned (.int .i64 (max (left - size t.tr) (-1))) ∧ Below w.heap.size w w' := by
  intro t
  induction t using Ta.ind with
  | h t ih =>
    intro S w left h hS h0 h1
    cases t with
    | mk k r ra rc ast l sa sc mn mx z ix nm =>
      obtain ⟨_, hN, hL⟩ := h.parts
      have hsz := Ta.tr_size k r ra rc ast l sa sc mn mx z ix nm
      have IH := Lib.hid ih
      have HN := Lib.hid hN
      have HL := Lib.hid hL
      have HS := Lib.hid hS
      have HSZ := Lib.hid hsz
      clear ih hL hS hsz h
      simp only [Ta.val, Ta.vals]
      have hb0 : Below w.heap.size w (w.alloc (.cells #[.int .i64 k, .slice ra r.length rc, .int .i64 ast, .slice sa l.length sc, .int .i64 mn, .int .i64 mx, .bool z, .int .i64 ix, .string nm] 28)) := (Below.refl _ _).alloc (Nat.le_refl _) _
      have hbl := Blk.new w 28 [.int .i64 k, .slice ra r.length rc, .int .i64 ast, .slice sa l.length sc, .int .i64 mn, .int .i64 mx, .bool z, .int .i64 ix, .string nm]
      have hsc := hN.1
      have hsc2 := hN.2.1
      have HB0 := Lib.hid hb0
      have HBL := Lib.hid hbl
      clear hb0 hbl hN
      go_enter Try.func19, Try.ntmps19
      go_wp2_with fail
      generalize w.alloc (.cells #[.int .i64 k, .slice ra r.length rc, .int .i64 ast, .slice sa l.length sc, .int .i64 mn, .int .i64 mx, .bool z, .int .i64 ix, .string nm] 28) = w1 at *
      go_loopw [1, 5] (fun lv iv wr => ∃ (i : Nat) (q : Int), i ≤ l.length ∧ iv = .int .i64 (i : Int) ∧ lv = .int .i64 q ∧ q = max (left - 1 - sizes (trs (l.take i))) (-1) ∧ Below w1.heap.size w1 wr) (fun _ iv _ => l.length - (intOf iv).toNat)
      case atStart => exact ⟨0, left - 1, Nat.zero_le _, rfl, rfl, by simp [trs, sizes]; omega, Below.refl _ _⟩
      case round =>
        obtain ⟨i, q, hi, rfl, rfl, hq, hb⟩ := hrel
        have HB := Lib.hid hb
        have HQ := Lib.hid hq
        have r3 : wr.cell? ⟨w.heap.size, 3, none⟩ = some (.slice sa l.length sc) := (HBL.out.below hb HBL.out.lt).cell 3
        have r9 := (HBL.out.below hb HBL.out.lt).lt
        have hle := sizes_take_le l i
        have HLE := Lib.hid hle
        clear hb
        by_cases hlt : i < l.length
        · have hlt2 : (i : Int) < (l.length : Int) := by omega
          by_cases hq0 : 0 ≤ q
          · have hqb : q ≤ 4194304 := by omega
            clear hq hle
            obtain ⟨b, off, rfl, hSb, _⟩ := HN.out.2.2.2.2 (by omega)
            obtain ⟨u, hu⟩ : ∃ u, l[i]? = some u := ⟨_, List.getElem?_eq_getElem hlt⟩
            have hum : u ∈ l := List.mem_of_getElem? hu
            have hbb := HS.out b hSb
            have hcell : ∀ j, j < 9 → wr.cell? ⟨b, off + i * 9 + j, none⟩ = u.vals[j]? := fun j hj => by
              rw [Nat.add_assoc]
              rw [← HN.out.node hu hj]
              exact ((HB0.out.trans (HB.out.mono HB0.out.size)).cell (p := ⟨b, off + (i * 9 + j), none⟩) hbb)
            have hin := (IH.out u hum S wr q ((HL.out u hum).below HS.out (HB0.out.trans (HB.out.mono HB0.out.size))) (fun b hb => Nat.lt_of_lt_of_le (HS.out b hb) (Nat.le_trans HB0.out.size HB.out.size)) hq0 hqb)
            have hst := sizes_take hu
            cases u with
            | mk k' r' ra' rc' a' l' sa' sc' n' m' z' i' s' =>
            simp only [Ta.vals] at hcell
            simp only [Ta.val, Ta.vals] at hin
            have c0 := hcell 0 (by omega)
            have c1 := hcell 1 (by omega)
            have c2 := hcell 2 (by omega)
            have c3 := hcell 3 (by omega)
            have c4 := hcell 4 (by omega)
            have c5 := hcell 5 (by omega)
            have c6 := hcell 6 (by omega)
            have c7 := hcell 7 (by omega)
            have c8 := hcell 8 (by omega)
            simp only [List.getElem?_cons_zero, List.getElem?_cons_succ, Nat.add_zero] at c0 c1 c2 c3 c4 c5 c6 c7 c8
            have HIN := Lib.hid hin
            have HST := Lib.hid hst
            clear hin hst hcell hu
            go_wp2_with (go_at_call 19; refine HIN.out.mono ?_; rintro e w2 ⟨rfl, hb2⟩; have HB2 := Lib.hid hb2; clear hb2; simp only [])
            go_roundw
            case rel =>
              refine ⟨i + 1, _, by omega, by go_num, rfl, ?_, HB.out.trans (HB2.out.mono HB.out.size)⟩
              exact ar_great HQ.out HST.out hq0
            case measure => simp [intOf]; omega
          · have hq1 : ¬ (0 ≤ q) := hq0
            clear hq
            go_wp2_with fail
            go_ret
            exact ⟨congrArg (fun z => Ending.returned (Value.int .i64 z)) (ar_end HQ.out HSZ.out HLE.out (.inl (by omega))), HB0.out.trans (HB.out.mono HB0.out.size)⟩
        · obtain rfl : i = l.length := by omega
          have hlt2 : ¬ ((l.length : Int) < (l.length : Int)) := by omega
          clear hq
          go_wp2_with fail
          go_ret
          exact ⟨congrArg (fun z => Ending.returned (Value.int .i64 z)) (ar_end HQ.out HSZ.out HLE.out (.inr (by rw [List.take_length]))), HB0.out.trans (HB.out.mono HB0.out.size)⟩
set_option maxHeartbeats 1000000 in
/-- Has a tree more parts than the statements ask of? -/
theorem deep_any (t : Ta) (S : Nat → Prop) (w : World) (h : RT w S t) (hS : ∀ b, S b → b < w.heap.size) :
    Calls Try.prog 8 #[t.val] w fun e w' => e = .returned (.bool (decide (4194304 < size t.tr))) ∧ Below w.heap.size w w' := by
  have hb0 : Below w.heap.size w (w.alloc (.cells t.vals.toArray 28)) := (Below.refl _ _).alloc (Nat.le_refl _) _
  have HB0 := Lib.hid hb0
  have HG := Lib.hid (great_any t S (w.alloc (.cells t.vals.toArray 28)) 4194304 (h.below hS hb0) (fun b hb => Nat.lt_of_lt_of_le (hS b hb) hb0.size) (by decide) (by decide))
  have hd : decide (max (4194304 - (size t.tr : Int)) (-1) < 0) = decide (4194304 < size t.tr) := by rw [decide_eq_decide]; omega
  have HD := Lib.hid hd
  clear h hS hd hb0
  cases t with
  | mk k r ra rc ast l sa sc mn mx z ix nm =>
  generalize size (Ta.mk k r ra rc ast l sa sc mn mx z ix nm).tr = q at *
  simp only [Ta.val, Ta.vals] at HG HB0 ⊢
  go_enter Try.func8, Try.ntmps8
  go_wp2_with (go_at_call 19; refine HG.out.mono ?_; rintro e w2 ⟨rfl, hb2⟩; have HB2 := Lib.hid hb2; clear hb2; simp only [])
  go_ret
  exact ⟨ret_bool (by first | exact HD.out | simpa using HD.out), HB0.out.trans (HB2.out.mono HB0.out.size)⟩

/-! ### Weight: some number -/
end Go.Proofs.Ytjeljlgjkjeloaa
