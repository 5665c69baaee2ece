/- simplify's row of trees: tree. -/
import Derived.Test.YtfgelkfnbohmmaaQRowPut
namespace Go.Proofs.Ytfgelkfnbohmmaa
open Go.RowKit Go.Proofs.Ytfgelkfnbohmmaa.Tr

set_option maxRecDepth 100000 in
set_option maxHeartbeats 2000000 in
theorem tree_any (B Bo : Nat) (X : List Nat) (rb : Nat) (v : Value) (us : List Ta) (w : World) (hr : RowV B Bo X rb 122 f1 v us w) (hB : B ≤ Bo) (hX : ∀ x ∈ X, x < Bo) (hn : us.length ≤ 1048576) :
    Calls Try.prog 67 #[.pointer (some ⟨rb, 0, none⟩)] w fun e w' => ∃ u : Ta, e = .returned u.val ∧ u.tr = row (trs us) ∧ RT w' (Fr B (X ++ [rb]) w') u ∧ Below w.heap.size w w' := by
  obtain ⟨A, c, rfl⟩ := own_shape hr.own
  have hrb := hr.blk.lt
  have hb1 : Blk (w.alloc (.cells #[.int .i64 0, .slice none 0 0, .int .i64 0, .slice none 0 0, .int .i64 0, .int .i64 0, .bool false, .int .i64 0, .string ⟨#[]⟩] 25)) rb 122 [.slice A us.length c] := hr.blk.alloc _
  have c0 : (w.alloc (.cells #[.int .i64 0, .slice none 0 0, .int .i64 0, .slice none 0 0, .int .i64 0, .int .i64 0, .bool false, .int .i64 0, .string ⟨#[]⟩] 25)).cell? ⟨rb, 0, none⟩ = some (.slice A us.length c) := hb1.cell 0
  have hba : Below w.heap.size w (w.alloc (.cells #[.int .i64 0, .slice none 0 0, .int .i64 0, .slice none 0 0, .int .i64 0, .int .i64 0, .bool false, .int .i64 0, .string ⟨#[]⟩] 25)) := (Below.refl _ _).alloc (Nat.le_refl _) _
  have hre := Blk.new w 25 [.int .i64 0, .slice none 0 0, .int .i64 0, .slice none 0 0, .int .i64 0, .int .i64 0, .bool false, .int .i64 0, .string ⟨#[]⟩]
  have hways : us = [] ∨ (∃ u, us = [u]) ∨ 2 ≤ us.length := by
    match us with
    | [] => exact .inl rfl
    | [u] => exact .inr (.inl ⟨u, rfl⟩)
    | _ :: _ :: _ => exact .inr (.inr (by simp))
  rcases hways with rfl | ⟨u, rfl⟩ | h2
  · go_enter Try.func67, Try.ntmps67
    go_wp2_with fail
    refine bodyPost_ret (node_ret rfl _ _ w.heap.size (Ta.mk 1 [] none 0 0 [] none 0 0 0 false 0 ⟨#[]⟩) rfl (Blk.new w _ _)) rfl ?_
    exact ⟨_, rfl, rfl, RT.of ⟨RdA.none_, by simp, by simp, by decide⟩ RdA.none_ (by simp), (Below.refl _ _).alloc (Nat.le_refl _) _⟩
  · obtain ⟨g, rfl, -, hg1, hg2⟩ := own_form hr.own (by simp)
    have hcell : ∀ q, q < 9 → (w.alloc (.cells #[.int .i64 0, .slice none 0 0, .int .i64 0, .slice none 0 0, .int .i64 0, .int .i64 0, .bool false, .int .i64 0, .string ⟨#[]⟩] 25)).cell? ⟨g, q, none⟩ = u.vals[q]? := fun q hq => by
      have h1 := rowT_get [u] 0 q u rfl hq
      rw [Nat.zero_mul, Nat.zero_add] at h1
      have h3 : q < u.vals.length := by rw [Ta.vals_length]; exact hq
      rw [List.getElem?_eq_getElem h3] at h1 ⊢
      exact (hba.cell (p := ⟨g, q, none⟩) hg2).trans (own_cell hr.own h1)
    have HU := Lib.hid (hr.els u (by simp))
    have hlt : (0 : Int) < (([u] : List Ta).length : Int) := by simp
    clear hr hb1 hba hre hn
    cases u with
    | mk k' r' ra' rc' a' l' sa' sc' n' m' z' i' s' =>
    simp only [Ta.vals] at hcell
    have c1 := hcell 0 (by omega)
    have c2 := hcell 1 (by omega)
    have c3 := hcell 2 (by omega)
    have c4 := hcell 3 (by omega)
    have c5 := hcell 4 (by omega)
    have c6 := hcell 5 (by omega)
    have c7 := hcell 6 (by omega)
    have c8 := hcell 7 (by omega)
    have c9 := hcell 8 (by omega)
    simp only [List.getElem?_cons_zero, List.getElem?_cons_succ] at c1 c2 c3 c4 c5 c6 c7 c8 c9
    clear hcell
    go_enter Try.func67, Try.ntmps67
    go_wp2_with fail
    refine bodyPost_ret (node_ret rfl _ _ w.heap.size (Ta.mk k' r' ra' rc' a' l' sa' sc' n' m' z' i' s') rfl (Blk.new w _ _)) rfl ?_
    exact ⟨_, rfl, rfl, (HU.out.fr_below ((Below.refl _ _).alloc (Nat.le_refl _) _)).fr_less (fun b hb => by simp at hb ⊢; rcases hb with h | h; exact .inl h; exact .inr (.inl h)), (Below.refl _ _).alloc (Nat.le_refl _) _⟩
  · have h0 : ((us.length : Int) == 0) = false := beq_eq_false_iff_ne.2 (by omega)
    have h1 : ((us.length : Int) == 1) = false := beq_eq_false_iff_ne.2 (by omega)
    have HR := Lib.hid hr
    have hrow : row (trs us) = catT (trs us) := by
      have := trs_length us
      match h : trs us with
      | [] => rw [h] at this; simp at this; omega
      | [x] => rw [h] at this; simp at this; omega
      | x :: y :: l => rfl
    have HROW := Lib.hid hrow
    clear hr hb1 hba hre hrow h2
    go_enter Try.func67, Try.ntmps67
    go_wp2_with fail
    have hb2 : Below w.heap.size w (w.alloc (.cells #[.int .i64 4, .slice none 0 0, .int .i64 0, .slice A us.length c, .int .i64 0, .int .i64 0, .bool false, .int .i64 0, .string ⟨#[]⟩] 25)) := (Below.refl _ _).alloc (Nat.le_refl _) _
    refine bodyPost_ret (node_ret rfl _ _ w.heap.size (Ta.mk 4 [] none 0 0 us A c 0 0 false 0 ⟨#[]⟩) rfl (Blk.new w _ _)) rfl ?_
    refine ⟨_, rfl, HROW.out.symm, RT.of ⟨RdA.none_, by simp, hn, by decide⟩ ?_ fun u hu => ((HR.out.els u hu).fr_below hb2).fr_less (fun b hb => by simp at hb ⊢; rcases hb with h | h; exact .inl h; exact .inr (.inl h)), hb2⟩
    obtain ⟨A', c', he, hra⟩ := RdA.of_own (L := X ++ [rb]) (own_lower (own_below HR.out.own hb2) hB) (fun b hb hm => by
      simp at hm
      rcases hm with hm | hm
      · have := hX b hm; have := (HR.out.own.lt b hb).1; omega
      · subst hm; exact HR.out.sep hb)
    cases he
    exact hra
end Go.Proofs.Ytfgelkfnbohmmaa
