/- awake of the laws on runes: the document's examples. -/
import Derived.Test.YtgljhhlnnedmaaaDoorNorm
import Derived.Test.YtgljhhlnnedmaaaDoorCut
namespace Go.Proofs.YtgljhhlnnedmaaaDoor
open Go.RowKit

theorem reads_lit (w : World) (t : TypeId) (size k : Nat) (cs : List Value) (hl : cs.length = k * size) (hk : k ≤ 9223372036854775807) :
    Reads (w.alloc (.cells cs.toArray t)) (w.alloc (.cells cs.toArray t)).heap.size size (some ⟨w.heap.size, 0, none⟩) k k cs :=
  Reads.of_own (own_lit w w.heap.size t size k cs.toArray cs (Nat.le_refl _) rfl hl hk)
theorem perm_two {S : List (Int × Int)} {p q : Int × Int} (hp : S.Perm [p, q]) (hs : S.Pairwise (fun x y => x.1 ≤ y.1)) (hlt : q.1 < p.1) : S = [q, p] := by
  match S, hp.length_eq with
  | [a, b], _ =>
    have ha : a ∈ [p, q] := hp.mem_iff.1 (by simp)
    simp at ha
    rcases ha with rfl | rfl
    · have h2 := List.Perm.cons_inv hp
      have hb : b = q := by simpa using h2
      subst hb
      simp at hs
      omega
    · have h2 := List.Perm.cons_inv (hp.trans (List.Perm.swap _ _ _))
      have hb : b = p := by simpa using h2
      subst hb
      rfl

set_option maxRecDepth 100000 in
set_option maxHeartbeats 2000000 in
theorem awake_any (w : World) (hL : LeadsIn w) (hg0 : 0 < w.heap.size) :
    Calls Tryd.prog 9 #[] w fun e w' => e = .returned (.bool true) ∧ Below w.heap.size w w' := by
  go_enter Tryd.func9, Tryd.ntmps9
  go_wp2_with fail
  -- Decode twice
  have d1 : dec [195, 169, 97] = (233, 2) := by decide
  have h1 := decode_any (some ⟨w.heap.size, 0, none⟩) 3 3 [195, 169, 97] (w.alloc (.cells #[.int .u8 195, .int .u8 169, .int .u8 97] 5)) (reads_lit w _ 1 3 [.int .u8 195, .int .u8 169, .int .u8 97] rfl (by decide)) (by decide)
    (hL.below ((Below.refl _ _).alloc (Nat.le_refl _) _) hg0)
  unfold DecodePost at h1
  rw [d1] at h1
  refine h1.mono ?_
  rintro e w1 ⟨rfl, hb1⟩
  have hB1 : Below w.heap.size w w1 := ((Below.refl _ _).alloc (Nat.le_refl _) _).trans (hb1.mono (by simp))
  clear h1 d1 hb1
  go_wp2_with fail
  have d2 : dec [128] = (65533, 1) := by decide
  have h2 := decode_any (some ⟨w1.heap.size, 0, none⟩) 1 1 [128] (w1.alloc (.cells #[.int .u8 128] 5)) (reads_lit w1 _ 1 1 [.int .u8 128] rfl (by decide)) (by decide)
    (hL.below (hB1.alloc hB1.size _) hg0)
  unfold DecodePost at h2
  rw [d2] at h2
  refine h2.mono ?_
  rintro e w2 ⟨rfl, hb2⟩
  have hB2 : Below w.heap.size w w2 := (hB1.alloc hB1.size _).trans (hb2.mono (by have := hB1.size; first | (simp; done) | (simp; omega)))
  clear h2 d2 hb2
  go_wp2_with fail
  -- Cut
  have c1 : cutRunes [97, 226, 130, 98] = [97, 65533, 65533, 98] := by decide
  have c2 : cutPlaces [97, 226, 130, 98] = [0, 1, 2, 3, 4] := by decide
  have h3 := cut_any (some ⟨w2.heap.size, 0, none⟩) 4 4 [97, 226, 130, 98] (w2.alloc (.cells #[.int .u8 97, .int .u8 226, .int .u8 130, .int .u8 98] 5)) (reads_lit w2 _ 1 4 [.int .u8 97, .int .u8 226, .int .u8 130, .int .u8 98] rfl (by decide)) (by decide)
    (hL.below (hB2.alloc hB2.size _) hg0) (by decide) (by have := hB2.size; first | (simp; done) | (simp; omega))
  rw [c1, c2] at h3
  refine h3.mono ?_
  rintro e w3 ⟨u, v, rfl, hu, hv, _, hb3⟩
  have hB3 : Below w.heap.size w w3 := (hB2.alloc hB2.size _).trans (hb3.mono (by have := hB2.size; first | (simp; done) | (simp; omega)))
  simp only [List.length_cons, List.length_nil, Nat.zero_add, Nat.reduceAdd] at hu hv
  obtain ⟨Au, cu, rfl⟩ := own_shape hu
  obtain ⟨Av, cv, rfl⟩ := own_shape hv
  obtain ⟨gu, rfl, _, _, _⟩ := own_form hu (by decide)
  obtain ⟨gv, rfl, _, _, _⟩ := own_form hv (by decide)
  have hcu : w3.cell? ⟨gu, 1, none⟩ = some (.int .i64 65533) := hu.cellAt 1 (by decide)
  have hcv : w3.cell? ⟨gv, 3, none⟩ = some (.int .i64 3) := hv.cellAt 3 (by decide)
  have hgu := World.block_lt_of_cell? w3 _ hcu
  have hgv := World.block_lt_of_cell? w3 _ hcv
  clear h3 c1 c2 hb3 hu hv
  go_wp2_with fail
  -- Norm
  have h4 := norm_any (some ⟨w3.heap.size, 0, none⟩) 2 2 [(97, 99), (48, 48)] (w3.alloc (.cells #[.int .i64 97, .int .i64 99, .int .i64 48, .int .i64 48] 55)) (reads_lit w3 _ 2 2 [.int .i64 97, .int .i64 99, .int .i64 48, .int .i64 48] rfl (by decide)) (by decide)
  unfold NormPost at h4
  rw [show [((97 : Int), (99 : Int)), (48, 48)].all okR = true from by decide] at h4
  refine h4.mono ?_
  rintro e w4 ⟨S, hp, hs, hb4, he⟩
  have hB4 : Below w.heap.size w w4 := (hB3.alloc hB3.size _).trans (hb4.mono (by have := hB3.size; first | (simp; done) | (simp; omega)))
  obtain rfl : S = [(48, 48), (97, 99)] := perm_two (p := (97, 99)) (q := (48, 48)) hp hs (by decide)
  rw [if_neg (by decide)] at he
  obtain ⟨v, rfl, hv⟩ := he
  rw [show mergeR [((48 : Int), (48 : Int)), (97, 99)] = [(48, 48), (97, 99)] from by decide] at hv
  simp only [List.length_cons, List.length_nil, Nat.zero_add, Nat.reduceAdd] at hv
  obtain ⟨An, cn, rfl⟩ := own_shape hv
  obtain ⟨gn, rfl, _, _, _⟩ := own_form hv (by decide)
  have hcn : w4.cell? ⟨gn, 0, none⟩ = some (.int .i64 48) := hv.cellAt 0 (by decide)
  have hcu4 : w4.cell? ⟨gu, 1, none⟩ = some (.int .i64 65533) := (hb4.cell (p := ⟨gu, 1, none⟩) (by simp; exact Nat.lt_succ_of_lt hgu)).trans (((Below.refl w3.heap.size w3).alloc (Nat.le_refl _) _).cell (p := ⟨gu, 1, none⟩) hgu |>.trans hcu)
  have hcv4 : w4.cell? ⟨gv, 3, none⟩ = some (.int .i64 3) := (hb4.cell (p := ⟨gv, 3, none⟩) (by simp; exact Nat.lt_succ_of_lt hgv)).trans (((Below.refl w3.heap.size w3).alloc (Nat.le_refl _) _).cell (p := ⟨gv, 3, none⟩) hgv |>.trans hcv)
  clear h4 hp hs hb4 hv hcu hcv hgu hgv
  go_wp2_with fail
  go_ret
  exact ⟨rfl, hB4⟩
end Go.Proofs.YtgljhhlnnedmaaaDoor
