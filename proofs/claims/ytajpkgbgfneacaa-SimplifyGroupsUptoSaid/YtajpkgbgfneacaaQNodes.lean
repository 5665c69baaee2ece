/- The law's nodes: how many a tree has. -/
import Derived.Test.YtajpkgbgfneacaaQGreat
namespace Go.Proofs.Ytajpkgbgfneacaa
open Go.RowKit Go.Proofs.Ytajpkgbgfneacaa.Tr

theorem ar_nodes {q d s0 s1 : Nat} (hs : s1 = s0 + d) (h : q = 1 + s0) : q + d = 1 + s1 := by omega
set_option maxRecDepth 100000 in
set_option maxHeartbeats 1000000 in
theorem nodes_any : ∀ (t : Ta) (S : Nat → Prop) (w : World), RT w S t → (∀ b, S b → b < w.heap.size) → size t.tr ≤ 1000000000 →
    Calls Try.prog 11 #[t.val] w fun e w' => e = .returned (.int .i64 (size t.tr : Nat)) ∧ Below w.heap.size w w' := by
  intro t
  induction t using Ta.ind with
  | h t ih =>
    intro S w h hS hsz
    cases t with
    | mk k r ra rc ast l sa sc mn mx z ix nm =>
      obtain ⟨⟨hR, hrl, hll⟩, hN, hL⟩ := h.parts
      have IH := Lib.hid ih
      have HN := Lib.hid hN
      have HL := Lib.hid hL
      have HS := Lib.hid hS
      have HRR := Lib.hid hR
      clear ih hL hS h
      simp only [Ta.val, Ta.vals]
      have hb0 : Below w.heap.size w (w.alloc (.cells #[.int .i64 k, .slice ra r.length rc, .int .i64 ast, .slice sa l.length sc, .int .i64 mn, .int .i64 mx, .bool z, .int .i64 ix, .string nm] 25)) := (Below.refl _ _).alloc (Nat.le_refl _) _
      have hbl := Blk.new w 25 [.int .i64 k, .slice ra r.length rc, .int .i64 ast, .slice sa l.length sc, .int .i64 mn, .int .i64 mx, .bool z, .int .i64 ix, .string nm]
      have hsc := hN.1
      have hsc2 := hN.2.1
      have HB0 := Lib.hid hb0
      have HBL := Lib.hid hbl
      clear hb0 hbl hN hR
      have hsz1 := Ta.tr_size k r ra rc ast l sa sc mn mx z ix nm
      have HSZ := Lib.hid hsz1
      rw [hsz1] at hsz ⊢
      clear hsz1
      go_enter Try.func11, Try.ntmps11
      go_wp2_with fail
      generalize w.alloc (.cells #[.int .i64 k, .slice ra r.length rc, .int .i64 ast, .slice sa l.length sc, .int .i64 mn, .int .i64 mx, .bool z, .int .i64 ix, .string nm] 25) = w1 at *
      go_loopw [3, 4] (fun nv iv wr => ∃ (i q : Nat), i ≤ l.length ∧ iv = .int .i64 (i : Int) ∧ nv = .int .i64 (q : Int) ∧ q = 1 + sizes (trs (l.take i)) ∧ Below w1.heap.size w1 wr) (fun _ iv _ => l.length - (intOf iv).toNat)
      case atStart => exact ⟨0, 1, Nat.zero_le _, rfl, rfl, by simp [trs, sizes], Below.refl _ _⟩
      case round =>
        obtain ⟨i, q, hi, rfl, rfl, hq, hb⟩ := hrel
        have HB := Lib.hid hb
        have HQ := Lib.hid hq
        have hle := sizes_take_le l i
        have hqb : q ≤ 1000000000 := by omega
        have r3 : wr.cell? ⟨w.heap.size, 3, none⟩ = some (.slice sa l.length sc) := (HBL.out.below hb HBL.out.lt).cell 3
        have r99 := (HBL.out.below hb HBL.out.lt).lt
        clear hb hq
        by_cases hlt : i < l.length
        · have hst := sizes_take (List.getElem?_eq_getElem hlt)
          have hle2 := sizes_take_le l (i + 1)
          have hub : size (l[i]'hlt).tr ≤ 1000000000 := by omega
          clear hst hle2 hle
          have hlt2 : (i : Int) < (l.length : Int) := by omega
          obtain ⟨b, off, rfl, hSb, _⟩ := HN.out.2.2.2.2 (by omega)
          obtain ⟨u, hu⟩ : ∃ u, l[i]? = some u := ⟨_, List.getElem?_eq_getElem hlt⟩
          have hum : u ∈ l := List.mem_of_getElem? hu
          have hbb := HS.out b hSb
          have hBW := HB0.out.trans (HB.out.mono HB0.out.size)
          have hcell : ∀ j, j < 9 → wr.cell? ⟨b, off + i * 9 + j, none⟩ = u.vals[j]? := fun j hj => by
            rw [Nat.add_assoc]
            rw [← HN.out.node hu hj]
            exact (hBW.cell (p := ⟨b, off + (i * 9 + j), none⟩) hbb)
          have hRT := (HL.out u hum).below HS.out hBW
          have hSw : ∀ b, S b → b < wr.heap.size := fun b hb => Nat.lt_of_lt_of_le (HS.out b hb) hBW.size
          have hub2 : size u.tr ≤ 1000000000 := by rw [List.getElem?_eq_getElem hlt] at hu; cases hu; exact hub
          have hin := IH.out u hum S wr hRT hSw hub2
          have HST := Lib.hid (sizes_take hu)
          clear hub
          obtain ⟨du, hdu⟩ : ∃ d, d = size u.tr := ⟨_, rfl⟩
          rw [← hdu] at hin HST hub2
          clear hdu
          cases u with
          | mk k' r' ra' rc' a' l' sa' sc' n' m' z' i' s' =>
          simp only [Ta.vals] at hcell
          simp only [Ta.val, Ta.vals] at hin
          have c0 := hcell 0 (by omega)
          have c1 := hcell 1 (by omega)
          have c2 := hcell 2 (by omega)
          have c3 := hcell 3 (by omega)
          have c4 := hcell 4 (by omega)
          have c5 := hcell 5 (by omega)
          have c6 := hcell 6 (by omega)
          have c7 := hcell 7 (by omega)
          have c8 := hcell 8 (by omega)
          simp only [List.getElem?_cons_zero, List.getElem?_cons_succ, Nat.add_zero] at c0 c1 c2 c3 c4 c5 c6 c7 c8
          have HIN := Lib.hid hin
          clear hin hcell hu hRT hSw hBW hbb
          go_wp2_with (go_at_call 11; refine HIN.out.mono ?_; rintro e w2 ⟨rfl, hb2⟩; have HB2 := Lib.hid hb2; clear hb2; simp only [])
          go_roundw
          case rel => exact ⟨i + 1, q + du, by omega, by go_num, by go_num, ar_nodes HST.out HQ.out, HB.out.trans (HB2.out.mono HB.out.size)⟩
          case measure => simp [intOf]; omega
        · obtain rfl : i = l.length := by omega
          have hlt2 : ¬ ((l.length : Int) < (l.length : Int)) := by omega
          clear hle
          go_wp2_with fail
          go_ret
          have hq := HQ.out
          rw [List.take_length] at hq
          exact ⟨congrArg (fun y : Nat => Ending.returned (Value.int .i64 (y : Int))) (hq.trans (Nat.add_comm _ _)), HB0.out.trans (HB.out.mono HB0.out.size)⟩
end Go.Proofs.Ytajpkgbgfneacaa
