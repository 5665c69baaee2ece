/- simplify's row of trees: put, tree. -/
import Derived.Deep.AppendLies
import Derived.Deep.RegionHeldLaw
import Derived.Test.YtfgelkfnbohmmaaP08
import Derived.Test.YtfgelkfnbohmmaaP11
namespace Go.Proofs.Ytfgelkfnbohmmaa
open Go.RowKit Go.Proofs.Ytfgelkfnbohmmaa.Tr
/-- A row of trees that grows: its slice stands in a cell of block rb; its trees lie from B on, in none of the row's blocks. -/
structure RowV (B Bo : Nat) (X : List Nat) (rb : Nat) (ty : TypeId) (f : Value → List Value) (v : Value) (us : List Ta) (w : World) : Prop where
  blk : Blk w rb ty (f v)
  own : w.ownsRow Bo 25 9 v us.length (rowT us)
  els : ∀ u ∈ us, RT w (Fr B (X ++ rb :: v.ownBlock.toList) w) u
  sep : v.ownBlock ≠ some rb
def f1 : Value → List Value := fun v => [v]
/-- What is put behind a row. -/
def putA : Ta → List Ta
  | .mk k r ra rc a l sa sc n m z i s => if k = 1 then [] else if k = 4 then l else [.mk k r ra rc a l sa sc n m z i s]
theorem putA_tr (t : Ta) : trs (putA t) = putT t.tr := by
  cases t with
  | mk k r ra rc ast l sa sc mn mx z ix nm =>
    rw [putA, Ta.tr]
    by_cases h1 : k = 1
    · rw [if_pos h1]; exact (if_pos (show (Tr.mk k r ast (trs l) mn mx z ix nm).kind = 1 from h1)).symm
    · by_cases h4 : k = 4
      · rw [if_neg h1, if_pos h4]; exact ((if_neg (show ¬ (Tr.mk k r ast (trs l) mn mx z ix nm).kind = 1 from h1)).trans (if_pos (show (Tr.mk k r ast (trs l) mn mx z ix nm).kind = 4 from h4))).symm
      · rw [if_neg h1, if_neg h4]; exact ((if_neg (show ¬ (Tr.mk k r ast (trs l) mn mx z ix nm).kind = 1 from h1)).trans (if_neg (show ¬ (Tr.mk k r ast (trs l) mn mx z ix nm).kind = 4 from h4))).symm
theorem new_atT (w : World) (t : TypeId) (cs : List Value) : ∀ j u, cs[j]? = some u → (w.alloc (.cells cs.toArray t)).cell? ((⟨w.heap.size, 0, none⟩ : Addr).add j) = some u := by
  intro j u hj
  rw [add_lit, Nat.zero_add]
  exact ((Blk.new w t cs).cell j).trans hj
/-- The zero node. -/
def zT : Ta := .mk 0 [] none 0 0 [] none 0 0 0 false 0 ⟨#[]⟩
theorem zT_one : ∀ u ∈ ([.int .i64 0, .slice none 0 0, .int .i64 0, .slice none 0 0, .int .i64 0, .int .i64 0, .bool false, .int .i64 0, .string ⟨#[]⟩] : List Value), u.oneCell' = true := zT.one
theorem zT_at (us : List Ta) (q : Nat) (hq : q < 9) : (rowT (us ++ [zT]))[us.length * 9 + q]? = zT.vals[q]? := rowT_get _ _ _ _ (by rw [List.getElem?_append_right (Nat.le_refl _), Nat.sub_self]; rfl) hq
theorem own_zero {w : World} {base : Nat} {v : Value} {n : Nat} {us : List Ta} (h : w.ownsRow base 25 9 v n (rowT us ++ [.int .i64 0, .slice none 0 0, .int .i64 0, .slice none 0 0, .int .i64 0, .int .i64 0, .bool false, .int .i64 0, .string ⟨#[]⟩])) : w.ownsRow base 25 9 v n (rowT (us ++ [zT])) := by
  rw [rowT_append]; exact h
theorem own_cell {w : World} {base : Nat} {e : TypeId} {size n g c : Nat} {xs : List Value} {j : Nat} {u : Value} (h : w.ownsRow base e size (.slice (some ⟨g, 0, none⟩) n c) n xs) (hu : xs[j]? = some u) : w.cell? ⟨g, j, none⟩ = some u := by
  rcases h.2 with ⟨h0, _⟩ | ⟨g', cap, cur, hv, hb, hh, hnc, hcm, hcs, ht⟩
  · cases h0
  · simp only [Value.slice.injEq, Option.some.injEq, Addr.mk.injEq, and_true] at hv
    obtain ⟨rfl, _⟩ := hv
    rw [cell_of_row w g j cur e (0, 0) hh]
    rw [← ht, List.getElem?_take] at hu
    split at hu
    · simpa using hu
    · cases hu
theorem own_frozen {w : World} {base : Nat} {e : TypeId} {size n g c : Nat} {xs : List Value} (h : w.ownsRow base e size (.slice (some ⟨g, 0, none⟩) n c) n xs) (j : Nat) : w.frozen? ⟨g, j, none⟩ = false := by
  rcases h.2 with ⟨h0, _⟩ | ⟨g', cap, cur, hv, hb, hh, hnc, hcm, hcs, ht⟩
  · cases h0
  · simp only [Value.slice.injEq, Option.some.injEq, Addr.mk.injEq, and_true] at hv
    obtain ⟨rfl, _⟩ := hv
    simp [World.frozen?, hh]
theorem at_old {A : Option Addr} {n c g a b : Nat} (h : a ≤ b) (ha : (Value.slice A n c).ownBlock = some g ∨ g = b) : (Value.slice A n c).ownBlock = some g ∨ a ≤ g := ha.imp id fun e => by omega
/-- Nine cells of an own row of nodes are written. -/
theorem own_set9 {w : World} {base g c n : Nat} {us : List Ta} {i : Nat} (h : w.ownsRow base 25 9 (.slice (some ⟨g, 0, none⟩) n c) n (rowT us)) (hi : i < us.length) {k r a s nn m z x nm : Value} {u : Ta} (hu : u.vals = [k, r, a, s, nn, m, z, x, nm]) :
    (((((((((w.setCell ⟨g, i * 9, none⟩ k).setCell ⟨g, i * 9 + 1, none⟩ r).setCell ⟨g, i * 9 + 2, none⟩ a).setCell ⟨g, i * 9 + 3, none⟩ s).setCell ⟨g, i * 9 + 4, none⟩ nn).setCell ⟨g, i * 9 + 5, none⟩ m).setCell ⟨g, i * 9 + 6, none⟩ z).setCell ⟨g, i * 9 + 7, none⟩ x).setCell ⟨g, i * 9 + 8, none⟩ nm).ownsRow base 25 9 (.slice (some ⟨g, 0, none⟩) n c) n (rowT (us.set i u)) := by
  rcases h.2 with ⟨h0, _⟩ | ⟨g', cap, cur, hv, hb, hh, hnc, hcm, hcs, ht⟩
  · cases h0
  · simp only [Value.slice.injEq, Option.some.injEq, Addr.mk.injEq, and_true] at hv
    obtain ⟨rfl, _, rfl⟩ := hv
    have hb0 : Blk w g 25 (rowT us ++ cur.toList.drop (n * 9)) := by
      unfold Blk
      rw [← ht, List.take_append_drop, Array.toArray_toList]
      exact hh
    have hb1 := hb0.set9 hi hu
    have hl0 := h.1
    rw [rowT_length] at hl0
    have hlen : (rowT (us.set i u) ++ cur.toList.drop (n * 9)).length = c * 9 := by
      have hcl : cur.toList.length = c * 9 := (Array.length_toList (xs := cur)).trans hcs
      rw [List.length_append, rowT_length, List.length_set, List.length_drop, hcl]
      have : n * 9 ≤ c * 9 := Nat.mul_le_mul_right _ hnc
      omega
    have := hb1.own (base := base) (size := 9) hb hnc (by unfold maxLen at hcm; omega) hlen
    rwa [List.take_append_of_le_length (by rw [rowT_length, List.length_set]; omega), List.take_of_length_le (by rw [rowT_length, List.length_set]; omega)] at this
theorem put_fin {B Bo rb g cap c : Nat} {X : List Nat} {A : Option Addr} {us : List Ta} {t : Ta} {w w2 wf : World} {ty : TypeId} {f : Value → List Value} (hr : RowV B Bo X rb ty f (.slice A us.length c) us w) (ht : RT w (Fr B (X ++ rb :: (Value.slice A us.length c).ownBlock.toList) w) t)
    (hk0 : Kept w w2 (Value.slice A us.length c).ownBlock.toList) (hk1 : Kept w2 wf [rb, g]) (hgo : (Value.slice A us.length c).ownBlock = some g ∨ w.heap.size ≤ g) (hgr : g ≠ rb)
    (hb : Blk wf rb ty (f (.slice (some ⟨g, 0, none⟩) (us.length + 1) cap))) (ho : wf.ownsRow Bo 25 9 (.slice (some ⟨g, 0, none⟩) (us.length + 1) cap) (us.length + 1) (rowT (us ++ [t]))) :
    ∃ v', RowV B Bo X rb ty f v' (us ++ [t]) wf ∧ Kept w wf (rb :: (Value.slice A us.length c).ownBlock.toList) ∧ (v'.ownBlock = (Value.slice A us.length c).ownBlock ∨ ∃ g, v'.ownBlock = some g ∧ w.heap.size ≤ g) := by
  have hk : Kept w wf (rb :: (Value.slice A us.length c).ownBlock.toList) := (hk0.trans hk1).more (by
    intro x hx
    rcases List.mem_append.1 hx with h | h
    · exact .inl (List.mem_cons_of_mem _ h)
    · simp only [List.mem_cons, List.not_mem_nil, or_false] at h
      rcases h with rfl | rfl
      · exact .inl (by simp)
      · rcases hgo with h | h
        · exact .inl (by rw [h]; simp)
        · exact .inr h)
  have hL' : ∀ x ∈ X ++ rb :: ((Value.slice (some ⟨g, 0, none⟩) (us.length + 1) cap).ownBlock).toList, x ∈ X ++ rb :: (Value.slice A us.length c).ownBlock.toList ∨ w.heap.size ≤ x ∨ x < B := fun x hx => by
    simp only [Value.ownBlock, Option.toList_some, List.mem_append, List.mem_cons, List.not_mem_nil, or_false] at hx
    rcases hx with hx | rfl | rfl
    · exact .inl (List.mem_append_left _ hx)
    · exact .inl (by simp)
    · rcases hgo with h | h
      · exact .inl (by rw [h]; simp)
      · exact .inr (.inl h)
  refine ⟨_, ⟨hb, by rw [List.length_append]; exact ho, fun u hu => ?_, fun h => hgr (by simpa [Value.ownBlock] using h)⟩, hk, ?_⟩
  · rcases List.mem_append.1 hu with hu | hu
    · exact (hr.els u hu).fr_kept hk (fun x hx => .inl (List.mem_append_right _ hx)) hL'
    · simp only [List.mem_singleton] at hu
      subst hu
      exact ht.fr_kept hk (fun x hx => .inl (List.mem_append_right _ hx)) hL'
  · rcases hgo with h | h
    · exact .inl h.symm
    · exact .inr ⟨g, rfl, h⟩
theorem put_finA {B Bo rb g cap c : Nat} {X : List Nat} {A : Option Addr} {us : List Ta} {t : Ta} {w w2 : World} (hr : RowV B Bo X rb 122 f1 (.slice A us.length c) us w) (ht : RT w (Fr B (X ++ rb :: (Value.slice A us.length c).ownBlock.toList) w) t)
    (hk0 : Kept w w2 (Value.slice A us.length c).ownBlock.toList) (hgo : (Value.slice A us.length c).ownBlock = some g ∨ w.heap.size ≤ g) (hgr : g ≠ rb) {v0 : Value}
    (hb : Blk w2 rb 122 (f1 v0)) (ho : w2.ownsRow Bo 25 9 (.slice (some ⟨g, 0, none⟩) (us.length + 1) cap) (us.length + 1) (rowT (us ++ [zT]))) {k r a s nn m z x nm : Value} (hu : t.vals = [k, r, a, s, nn, m, z, x, nm]) :
    ∃ v', RowV B Bo X rb 122 f1 v' (us ++ [t]) ((((((((((w2.setCell ⟨g, us.length * 9, none⟩ k).setCell ⟨g, us.length * 9 + 1, none⟩ r).setCell ⟨g, us.length * 9 + 2, none⟩ a).setCell ⟨g, us.length * 9 + 3, none⟩ s).setCell ⟨g, us.length * 9 + 4, none⟩ nn).setCell ⟨g, us.length * 9 + 5, none⟩ m).setCell ⟨g, us.length * 9 + 6, none⟩ z).setCell ⟨g, us.length * 9 + 7, none⟩ x).setCell ⟨g, us.length * 9 + 8, none⟩ nm).setCell ⟨rb, 0, none⟩ (.slice (some ⟨g, 0, none⟩) (us.length + 1) cap)) ∧ Kept w ((((((((((w2.setCell ⟨g, us.length * 9, none⟩ k).setCell ⟨g, us.length * 9 + 1, none⟩ r).setCell ⟨g, us.length * 9 + 2, none⟩ a).setCell ⟨g, us.length * 9 + 3, none⟩ s).setCell ⟨g, us.length * 9 + 4, none⟩ nn).setCell ⟨g, us.length * 9 + 5, none⟩ m).setCell ⟨g, us.length * 9 + 6, none⟩ z).setCell ⟨g, us.length * 9 + 7, none⟩ x).setCell ⟨g, us.length * 9 + 8, none⟩ nm).setCell ⟨rb, 0, none⟩ (.slice (some ⟨g, 0, none⟩) (us.length + 1) cap)) (rb :: (Value.slice A us.length c).ownBlock.toList) ∧ (v'.ownBlock = (Value.slice A us.length c).ownBlock ∨ ∃ g, v'.ownBlock = some g ∧ w.heap.size ≤ g) := by
  have hil : us.length < (us ++ [zT]).length := by rw [List.length_append]; simp
  have hse : (us ++ [zT]).set us.length t = us ++ [t] := by rw [List.set_append_right _ _ (Nat.le_refl _), Nat.sub_self]; rfl
  refine put_fin (cap := cap) hr ht hk0 (((kept9 w2 g (us.length * 9) k r a s nn m z x nm).trans (Kept.setCell ⟨rb, 0, none⟩ _)).more (by intro k hk; simp at hk ⊢; exact .inl hk.symm)) hgo hgr ?_ ?_
  · exact (hb.kept (kept9 w2 g (us.length * 9) k r a s nn m z x nm) (by simpa using hgr.symm)).set_ 0 (.slice (some ⟨g, 0, none⟩) (us.length + 1) cap)
  · rw [← hse]
    exact own_kept (own_set9 ho hil hu) (Kept.setCell ⟨rb, 0, none⟩ (.slice (some ⟨g, 0, none⟩) (us.length + 1) cap)) (fun x hx hm => by simp [Value.ownBlock] at hx hm; exact hgr (by rw [hx, hm]))
theorem put_finB {B Bo rb g cap c : Nat} {X : List Nat} {A : Option Addr} {us : List Ta} {t : Ta} {w w2 : World} (hr : RowV B Bo X rb 122 f1 (.slice A us.length c) us w) (ht : RT w (Fr B (X ++ rb :: (Value.slice A us.length c).ownBlock.toList) w) t)
    (hk0 : Kept w w2 (Value.slice A us.length c).ownBlock.toList) (hgo : (Value.slice A us.length c).ownBlock = some g ∨ w.heap.size ≤ g) (hgr : g ≠ rb) {v0 : Value}
    (hb : Blk w2 rb 122 (f1 v0)) (ho : w2.ownsRow Bo 25 9 (.slice (some ⟨g, 0, none⟩) (us.length + 1) cap) (us.length + 1) (rowT (us ++ [zT]))) {k r a s nn m z x nm : Value} (hu : t.vals = [k, r, a, s, nn, m, z, x, nm]) :
    ∃ v', RowV B Bo X rb 122 f1 v' (us ++ [t]) ((((((((((w2.setCell ⟨rb, 0, none⟩ (.slice (some ⟨g, 0, none⟩) (us.length + 1) cap)).setCell ⟨g, us.length * 9, none⟩ k).setCell ⟨g, us.length * 9 + 1, none⟩ r).setCell ⟨g, us.length * 9 + 2, none⟩ a).setCell ⟨g, us.length * 9 + 3, none⟩ s).setCell ⟨g, us.length * 9 + 4, none⟩ nn).setCell ⟨g, us.length * 9 + 5, none⟩ m).setCell ⟨g, us.length * 9 + 6, none⟩ z).setCell ⟨g, us.length * 9 + 7, none⟩ x).setCell ⟨g, us.length * 9 + 8, none⟩ nm) ∧ Kept w ((((((((((w2.setCell ⟨rb, 0, none⟩ (.slice (some ⟨g, 0, none⟩) (us.length + 1) cap)).setCell ⟨g, us.length * 9, none⟩ k).setCell ⟨g, us.length * 9 + 1, none⟩ r).setCell ⟨g, us.length * 9 + 2, none⟩ a).setCell ⟨g, us.length * 9 + 3, none⟩ s).setCell ⟨g, us.length * 9 + 4, none⟩ nn).setCell ⟨g, us.length * 9 + 5, none⟩ m).setCell ⟨g, us.length * 9 + 6, none⟩ z).setCell ⟨g, us.length * 9 + 7, none⟩ x).setCell ⟨g, us.length * 9 + 8, none⟩ nm) (rb :: (Value.slice A us.length c).ownBlock.toList) ∧ (v'.ownBlock = (Value.slice A us.length c).ownBlock ∨ ∃ g, v'.ownBlock = some g ∧ w.heap.size ≤ g) := by
  have hil : us.length < (us ++ [zT]).length := by rw [List.length_append]; simp
  have hse : (us ++ [zT]).set us.length t = us ++ [t] := by rw [List.set_append_right _ _ (Nat.le_refl _), Nat.sub_self]; rfl
  refine put_fin (cap := cap) hr ht hk0 (((Kept.setCell ⟨rb, 0, none⟩ _).trans (kept9 _ g (us.length * 9) k r a s nn m z x nm)).more (by intro k hk; simp at hk ⊢; exact .inl hk)) hgo hgr ?_ ?_
  · exact (hb.set_ 0 (.slice (some ⟨g, 0, none⟩) (us.length + 1) cap)).kept (kept9 _ g (us.length * 9) k r a s nn m z x nm) (by simpa using hgr.symm)
  · rw [← hse]
    exact own_set9 (own_kept ho (Kept.setCell (w := w2) ⟨rb, 0, none⟩ (.slice (some ⟨g, 0, none⟩) (us.length + 1) cap)) (fun x hx hm => by simp [Value.ownBlock] at hx hm; exact hgr (by rw [hx, hm]))) hil hu
set_option maxRecDepth 100000 in
set_option maxHeartbeats 2000000 in
theorem put_any (B Bo : Nat) (X : List Nat) (rb : Nat) (v : Value) (us : List Ta) (t : Ta) (w : World) (hr : RowV B Bo X rb 122 f1 v us w) (ht : RT w (Fr B (X ++ rb :: v.ownBlock.toList) w) t) (hB : Bo ≤ w.heap.size) (hn : us.length ≤ 1048576) (h4 : t.tr.kind = 4 → 0 < t.subs.length) :
    Calls Try.prog 66 #[.pointer (some ⟨rb, 0, none⟩), t.val] w fun e w' => e = .returned (.tuple #[]) ∧ ∃ v', RowV B Bo X rb 122 f1 v' (us ++ putA t) w' ∧ Kept w w' (rb :: v.ownBlock.toList) ∧ (v'.ownBlock = v.ownBlock ∨ ∃ g, v'.ownBlock = some g ∧ w.heap.size ≤ g) := by
  obtain ⟨i0, hi, hz0, hz1, hz2⟩ := info_parts info_clone_nodes
  obtain ⟨A, c, rfl⟩ := own_shape hr.own
  cases t with
  | mk k r ra rc ast l sa sc mn mx z ix nm =>
  obtain ⟨⟨hR, hrl, hll, hnm⟩, hN, hL⟩ := ht.parts
  have hrb := hr.blk.lt
  have hba : Below w.heap.size w (w.alloc (.cells #[.int .i64 k, .slice ra r.length rc, .int .i64 ast, .slice sa l.length sc, .int .i64 mn, .int .i64 mx, .bool z, .int .i64 ix, .string nm] 25)) := (Below.refl _ _).alloc (Nat.le_refl _) _
  have hways : (k == 1) = true ∨ ((k == 1) = false ∧ (k == 4) = true) ∨ ((k == 1) = false ∧ (k == 4) = false) := by
    cases (k == 1) <;> cases (k == 4) <;> simp
  rcases hways with h1 | ⟨h1, h2⟩ | ⟨h1, h2⟩
  · have hk1 : k = 1 := by simpa using h1
    have hp : putA (Ta.mk k r ra rc ast l sa sc mn mx z ix nm) = [] := by rw [putA, if_pos hk1]
    rw [hp, List.append_nil]
    have HR := Lib.hid hr
    have HBA := Lib.hid hba
    clear hr ht hR hN hL hba hk1 hp
    simp only [Ta.val, Ta.vals]
    go_enter Try.func66, Try.ntmps66
    go_wp2_with fail
    go_end0
    exact ⟨rfl, _, ⟨HR.out.blk.below HBA.out HR.out.blk.lt, own_below HR.out.own HBA.out, fun u hu => (HR.out.els u hu).fr_below HBA.out, HR.out.sep⟩, Kept.of_below HBA.out, .inl rfl⟩
  · have hk1 : ¬ k = 1 := by simpa using h1
    have hk4 : k = 4 := by simpa using h2
    have hp : putA (Ta.mk k r ra rc ast l sa sc mn mx z ix nm) = l := by rw [putA, if_neg hk1, if_pos hk4]
    rw [hp]
    have hlp : 0 < l.length := h4 hk4
    clear hk1 hk4 hp
    have hb1 := hr.blk.alloc (.cells #[.int .i64 k, .slice ra r.length rc, .int .i64 ast, .slice sa l.length sc, .int .i64 mn, .int .i64 mx, .bool z, .int .i64 ix, .string nm] 25)
    have ho1 := own_below hr.own hba
    have ht1 := Blk.new w 25 [.int .i64 k, .slice ra r.length rc, .int .i64 ast, .slice sa l.length sc, .int .i64 mn, .int .i64 mx, .bool z, .int .i64 ix, .string nm]
    obtain ⟨b, off, rfl, hSb, hcb⟩ := hN.2.2.2.2 hlp
    have hnews : ∀ j u, (rowT l)[j]? = some u → (w.alloc (.cells #[.int .i64 k, .slice ra r.length rc, .int .i64 ast, .slice (some ⟨b, off, none⟩) l.length sc, .int .i64 mn, .int .i64 mx, .bool z, .int .i64 ix, .string nm] 25)).drew.cell? ((⟨b, off, none⟩ : Addr).add j) = some u := fun j u hu => by
      rw [add_lit]
      exact (hba.cell (p := ⟨b, off + j, none⟩) hSb.2.1).trans (hcb j u hu)
    have hbs : Bo ≤ (w.alloc (.cells #[.int .i64 k, .slice ra r.length rc, .int .i64 ast, .slice (some ⟨b, off, none⟩) l.length sc, .int .i64 mn, .int .i64 mx, .bool z, .int .i64 ix, .string nm] 25)).drew.heap.size := Nat.le_trans hB hba.size
    have hsz1 := hba.size
    simp only [Ta.val, Ta.vals]
    go_enter Try.func66, Try.ntmps66
    go_wp2_with fail
    generalize (w.alloc (.cells #[.int .i64 k, .slice ra r.length rc, .int .i64 ast, .slice (some ⟨b, off, none⟩) l.length sc, .int .i64 mn, .int .i64 mx, .bool z, .int .i64 ix, .string nm] 25)) = w1 at *
    have e0 : w1.drew.cell? ⟨rb, 0, none⟩ = some (.slice A us.length c) := hb1.cell 0
    have e3 : w1.drew.cell? ⟨w.heap.size, 3, none⟩ = some (.slice (some ⟨b, off, none⟩) l.length sc) := ht1.cell 3
    have HR := Lib.hid hr
    have HLL := Lib.hid hL
    have HBA := Lib.hid hba
    have HB1 := Lib.hid hb1
    clear hr hL hba hR hN ht hcb
    go_region_law (first
      | (refine step_append_lies _ rfl (.tmp 25) (.tmp 27) 23 rfl Bo 25 i0 (.agg #[.int .i64 0, .slice none 0 0, .int .i64 0, .slice none 0 0, .int .i64 0, .int .i64 0, .bool false, .int .i64 0, .string ⟨#[]⟩]) 9 112 Try.underlying23 hi hz0 hz1 hz2 rfl (by decide) (.slice A us.length c) us.length (rowT us) rfl ho1.drew ⟨b, off, none⟩ l.length sc (rowT l) rfl (rowT_length l) hnews (rowT_one l) hlp (by unfold maxLen; omega) (by omega) hbs _ rfl ?_; intro g cap2 w2 hou2 hg2 hat2 hlt2; have hb2 := HB1.out.drew.grown hg2 HR.out.sep.symm; have q1 : w2.cell? ⟨rb, 0, none⟩ = some (.slice A us.length c) := hb2.cell 0; have q2 := hb2.frozen 0; have q3 := hb2.lt))
    all_goals
      go_wp2_with fail
      go_end0
      have hk : Kept w (w2.setCell ⟨rb, 0, none⟩ (.slice (some ⟨g, 0, none⟩) (us.length + l.length) cap2)) (rb :: (Value.slice A us.length c).ownBlock.toList) :=
        (((Kept.of_below (L := []) HBA.out).trans ((Kept.drew (L := [])).trans (Kept.of_grown' hg2))).trans (Kept.setCell _ _)).more (by intro k hk; simp at hk ⊢; rcases hk with h | h; exact .inl (.inr h); exact .inl (.inl h))
      have hgo : (Value.slice A us.length c).ownBlock = some g ∨ w.heap.size ≤ g := hat2.imp id fun h => by rw [h]; exact hsz1
      have hgr : g ≠ rb := fun e => by
        rcases hgo with h | h
        · exact HR.out.sep (by rw [h, e])
        · omega
      have hL' : ∀ x ∈ X ++ rb :: ((Value.slice (some ⟨g, 0, none⟩) (us.length + l.length) cap2).ownBlock).toList, x ∈ X ++ rb :: (Value.slice A us.length c).ownBlock.toList ∨ w.heap.size ≤ x ∨ x < B := fun x hx => by
        simp only [Value.ownBlock, Option.toList_some, List.mem_append, List.mem_cons, List.not_mem_nil, or_false] at hx
        rcases hx with hx | rfl | rfl
        · exact .inl (List.mem_append_left _ hx)
        · exact .inl (by simp)
        · rcases hgo with h | h
          · exact .inl (by rw [h]; simp)
          · exact .inr (.inl h)
      refine ⟨rfl, .slice (some ⟨g, 0, none⟩) (us.length + l.length) cap2, ⟨hb2.set_ 0 _, ?_, ?_, fun h => hgr (by simpa [Value.ownBlock] using h)⟩, hk, ?_⟩
      · rw [List.length_append, rowT_append]
        exact own_kept hou2 (Kept.setCell (w := w2) ⟨rb, 0, none⟩ _) (fun x hx hm => by simp [Value.ownBlock] at hx hm; exact hgr (by rw [hx, hm]))
      · intro u hu
        rcases List.mem_append.1 hu with hu | hu
        · exact (HR.out.els u hu).fr_kept hk (fun x hx => .inl (List.mem_append_right _ hx)) hL'
        · exact (HLL.out u hu).fr_kept hk (fun x hx => .inl (List.mem_append_right _ hx)) hL'
      · rcases hgo with h | h
        · exact .inl h.symm
        · exact .inr ⟨g, rfl, h⟩
  · have hk1 : ¬ k = 1 := by simpa using h1
    have hk4 : ¬ k = 4 := by simpa using h2
    have hp : putA (Ta.mk k r ra rc ast l sa sc mn mx z ix nm) = [Ta.mk k r ra rc ast l sa sc mn mx z ix nm] := by rw [putA, if_neg hk1, if_neg hk4]
    rw [hp]
    clear hk1 hk4 hp
    have hb1 := hr.blk.alloc (.cells #[.int .i64 k, .slice ra r.length rc, .int .i64 ast, .slice sa l.length sc, .int .i64 mn, .int .i64 mx, .bool z, .int .i64 ix, .string nm] 25)
    have ho1 := own_below hr.own hba
    have ht1 := Blk.new w 25 [.int .i64 k, .slice ra r.length rc, .int .i64 ast, .slice sa l.length sc, .int .i64 mn, .int .i64 mx, .bool z, .int .i64 ix, .string nm]
    have hbs0 : Bo ≤ (w.alloc (.cells #[.int .i64 k, .slice ra r.length rc, .int .i64 ast, .slice sa l.length sc, .int .i64 mn, .int .i64 mx, .bool z, .int .i64 ix, .string nm] 25)).heap.size := Nat.le_trans hB hba.size
    have hsz1 := hba.size
    simp only [Ta.val, Ta.vals]
    go_enter Try.func66, Try.ntmps66
    go_wp2_with fail
    have HT := Lib.hid ht
    generalize (w.alloc (.cells #[.int .i64 k, .slice ra r.length rc, .int .i64 ast, .slice sa l.length sc, .int .i64 mn, .int .i64 mx, .bool z, .int .i64 ix, .string nm] 25)) = w1 at *
    have hb2 := hb1.alloc (.cells #[.int .i64 0, .slice none 0 0, .int .i64 0, .slice none 0 0, .int .i64 0, .int .i64 0, .bool false, .int .i64 0, .string ⟨#[]⟩] 25)
    have ht2 := ht1.alloc (.cells #[.int .i64 0, .slice none 0 0, .int .i64 0, .slice none 0 0, .int .i64 0, .int .i64 0, .bool false, .int .i64 0, .string ⟨#[]⟩] 25)
    have hb12 : Below w1.heap.size w1 (w1.alloc (.cells #[.int .i64 0, .slice none 0 0, .int .i64 0, .slice none 0 0, .int .i64 0, .int .i64 0, .bool false, .int .i64 0, .string ⟨#[]⟩] 25)) := (Below.refl _ _).alloc (Nat.le_refl _) _
    have ho2 := own_below ho1 hb12
    have hbs : Bo ≤ (w1.alloc (.cells #[.int .i64 0, .slice none 0 0, .int .i64 0, .slice none 0 0, .int .i64 0, .int .i64 0, .bool false, .int .i64 0, .string ⟨#[]⟩] 25)).drew.heap.size := Nat.le_trans hbs0 hb12.size
    have HSZ := Lib.hid (show w.heap.size ≤ (w1.alloc (.cells #[.int .i64 0, .slice none 0 0, .int .i64 0, .slice none 0 0, .int .i64 0, .int .i64 0, .bool false, .int .i64 0, .string ⟨#[]⟩] 25)).drew.heap.size from Nat.le_trans hsz1 hb12.size)
    have e0 : w1.drew.cell? ⟨rb, 0, none⟩ = some (.slice A us.length c) := hb1.cell 0
    have e0' : (w1.alloc (.cells #[.int .i64 0, .slice none 0 0, .int .i64 0, .slice none 0 0, .int .i64 0, .int .i64 0, .bool false, .int .i64 0, .string ⟨#[]⟩] 25)).drew.cell? ⟨rb, 0, none⟩ = some (.slice A us.length c) := hb2.cell 0
    have g0 : w1.drew.cell? ⟨w.heap.size, 0, none⟩ = some (.int .i64 k) := ht1.cell 0
    have f0 : (w1.alloc (.cells #[.int .i64 0, .slice none 0 0, .int .i64 0, .slice none 0 0, .int .i64 0, .int .i64 0, .bool false, .int .i64 0, .string ⟨#[]⟩] 25)).drew.cell? ⟨w.heap.size, 0, none⟩ = some (.int .i64 k) := ht2.cell 0
    have g1 : w1.drew.cell? ⟨w.heap.size, 1, none⟩ = some (.slice ra r.length rc) := ht1.cell 1
    have f1 : (w1.alloc (.cells #[.int .i64 0, .slice none 0 0, .int .i64 0, .slice none 0 0, .int .i64 0, .int .i64 0, .bool false, .int .i64 0, .string ⟨#[]⟩] 25)).drew.cell? ⟨w.heap.size, 1, none⟩ = some (.slice ra r.length rc) := ht2.cell 1
    have g2 : w1.drew.cell? ⟨w.heap.size, 2, none⟩ = some (.int .i64 ast) := ht1.cell 2
    have f2 : (w1.alloc (.cells #[.int .i64 0, .slice none 0 0, .int .i64 0, .slice none 0 0, .int .i64 0, .int .i64 0, .bool false, .int .i64 0, .string ⟨#[]⟩] 25)).drew.cell? ⟨w.heap.size, 2, none⟩ = some (.int .i64 ast) := ht2.cell 2
    have g3 : w1.drew.cell? ⟨w.heap.size, 3, none⟩ = some (.slice sa l.length sc) := ht1.cell 3
    have f3 : (w1.alloc (.cells #[.int .i64 0, .slice none 0 0, .int .i64 0, .slice none 0 0, .int .i64 0, .int .i64 0, .bool false, .int .i64 0, .string ⟨#[]⟩] 25)).drew.cell? ⟨w.heap.size, 3, none⟩ = some (.slice sa l.length sc) := ht2.cell 3
    have g4 : w1.drew.cell? ⟨w.heap.size, 4, none⟩ = some (.int .i64 mn) := ht1.cell 4
    have f4 : (w1.alloc (.cells #[.int .i64 0, .slice none 0 0, .int .i64 0, .slice none 0 0, .int .i64 0, .int .i64 0, .bool false, .int .i64 0, .string ⟨#[]⟩] 25)).drew.cell? ⟨w.heap.size, 4, none⟩ = some (.int .i64 mn) := ht2.cell 4
    have g5 : w1.drew.cell? ⟨w.heap.size, 5, none⟩ = some (.int .i64 mx) := ht1.cell 5
    have f5 : (w1.alloc (.cells #[.int .i64 0, .slice none 0 0, .int .i64 0, .slice none 0 0, .int .i64 0, .int .i64 0, .bool false, .int .i64 0, .string ⟨#[]⟩] 25)).drew.cell? ⟨w.heap.size, 5, none⟩ = some (.int .i64 mx) := ht2.cell 5
    have g6 : w1.drew.cell? ⟨w.heap.size, 6, none⟩ = some (.bool z) := ht1.cell 6
    have f6 : (w1.alloc (.cells #[.int .i64 0, .slice none 0 0, .int .i64 0, .slice none 0 0, .int .i64 0, .int .i64 0, .bool false, .int .i64 0, .string ⟨#[]⟩] 25)).drew.cell? ⟨w.heap.size, 6, none⟩ = some (.bool z) := ht2.cell 6
    have g7 : w1.drew.cell? ⟨w.heap.size, 7, none⟩ = some (.int .i64 ix) := ht1.cell 7
    have f7 : (w1.alloc (.cells #[.int .i64 0, .slice none 0 0, .int .i64 0, .slice none 0 0, .int .i64 0, .int .i64 0, .bool false, .int .i64 0, .string ⟨#[]⟩] 25)).drew.cell? ⟨w.heap.size, 7, none⟩ = some (.int .i64 ix) := ht2.cell 7
    have g8 : w1.drew.cell? ⟨w.heap.size, 8, none⟩ = some (.string nm) := ht1.cell 8
    have f8 : (w1.alloc (.cells #[.int .i64 0, .slice none 0 0, .int .i64 0, .slice none 0 0, .int .i64 0, .int .i64 0, .bool false, .int .i64 0, .string ⟨#[]⟩] 25)).drew.cell? ⟨w.heap.size, 8, none⟩ = some (.string nm) := ht2.cell 8
    have HR := Lib.hid hr
    have HBA := Lib.hid hba
    have HB2 := Lib.hid hb2
    have HO2 := Lib.hid ho2
    have HB12 := Lib.hid hb12
    have hlt01 : (us.length : Int) < (us.length : Int) + 1 := by omega
    clear hr hL hba hR hN ht hb1 hb2 ht1 ht2 ho1 ho2 hb12
    go_region_law (first
      | (refine step_append_lies _ rfl (.tmp 9) (.tmp 12) 23 rfl Bo 25 i0 (.agg #[.int .i64 0, .slice none 0 0, .int .i64 0, .slice none 0 0, .int .i64 0, .int .i64 0, .bool false, .int .i64 0, .string ⟨#[]⟩]) 9 112 Try.underlying23 hi hz0 hz1 hz2 rfl (by decide) (.slice A us.length c) us.length (rowT us) rfl HO2.out.drew ⟨w1.heap.size, 0, none⟩ 1 1 [.int .i64 0, .slice none 0 0, .int .i64 0, .slice none 0 0, .int .i64 0, .int .i64 0, .bool false, .int .i64 0, .string ⟨#[]⟩] rfl rfl (new_atT w1 _ [.int .i64 0, .slice none 0 0, .int .i64 0, .slice none 0 0, .int .i64 0, .int .i64 0, .bool false, .int .i64 0, .string ⟨#[]⟩]) zT_one (by decide) (by unfold maxLen; omega) (by omega) hbs _ rfl ?_; intro g cap2 w2 hou2 hg2 hat2 hlt2; have hgo := at_old HSZ.out hat2; have hgr : g ≠ rb := (fun e => (by rcases hgo with h | h; exact HR.out.sep (by rw [h, e]); omega)); have hb2 := HB2.out.drew.grown hg2 HR.out.sep.symm; have q1 : w2.cell? ⟨rb, 0, none⟩ = some (.slice A us.length c) := hb2.cell 0; have q2 := hb2.frozen 0; have q3 := hb2.lt; have HOU := Lib.hid (own_zero hou2); have HOS := Lib.hid (own_kept HOU.out (Kept.setCell (w := w2) ⟨rb, 0, none⟩ (.slice (some ⟨g, 0, none⟩) (us.length + 1) cap2)) (fun x hx hm => by simp [Value.ownBlock] at hx hm; exact hgr (by rw [hx, hm]))); have d0 : w2.cell? ⟨g, us.length * 9, none⟩ = some (.int .i64 0) := own_cell HOU.out (zT_at us 0 (by omega)); have e0 := own_frozen HOU.out (us.length * 9); have x0 : (w2.setCell ⟨rb, 0, none⟩ (.slice (some ⟨g, 0, none⟩) (us.length + 1) cap2)).cell? ⟨g, us.length * 9, none⟩ = some (.int .i64 0) := own_cell HOS.out (zT_at us 0 (by omega)); have y0 := own_frozen HOS.out (us.length * 9); have d1 : w2.cell? ⟨g, us.length * 9 + 1, none⟩ = some (.slice none 0 0) := own_cell HOU.out (zT_at us 1 (by omega)); have e1 := own_frozen HOU.out (us.length * 9 + 1); have x1 : (w2.setCell ⟨rb, 0, none⟩ (.slice (some ⟨g, 0, none⟩) (us.length + 1) cap2)).cell? ⟨g, us.length * 9 + 1, none⟩ = some (.slice none 0 0) := own_cell HOS.out (zT_at us 1 (by omega)); have y1 := own_frozen HOS.out (us.length * 9 + 1); have d2 : w2.cell? ⟨g, us.length * 9 + 2, none⟩ = some (.int .i64 0) := own_cell HOU.out (zT_at us 2 (by omega)); have e2 := own_frozen HOU.out (us.length * 9 + 2); have x2 : (w2.setCell ⟨rb, 0, none⟩ (.slice (some ⟨g, 0, none⟩) (us.length + 1) cap2)).cell? ⟨g, us.length * 9 + 2, none⟩ = some (.int .i64 0) := own_cell HOS.out (zT_at us 2 (by omega)); have y2 := own_frozen HOS.out (us.length * 9 + 2); have d3 : w2.cell? ⟨g, us.length * 9 + 3, none⟩ = some (.slice none 0 0) := own_cell HOU.out (zT_at us 3 (by omega)); have e3 := own_frozen HOU.out (us.length * 9 + 3); have x3 : (w2.setCell ⟨rb, 0, none⟩ (.slice (some ⟨g, 0, none⟩) (us.length + 1) cap2)).cell? ⟨g, us.length * 9 + 3, none⟩ = some (.slice none 0 0) := own_cell HOS.out (zT_at us 3 (by omega)); have y3 := own_frozen HOS.out (us.length * 9 + 3); have d4 : w2.cell? ⟨g, us.length * 9 + 4, none⟩ = some (.int .i64 0) := own_cell HOU.out (zT_at us 4 (by omega)); have e4 := own_frozen HOU.out (us.length * 9 + 4); have x4 : (w2.setCell ⟨rb, 0, none⟩ (.slice (some ⟨g, 0, none⟩) (us.length + 1) cap2)).cell? ⟨g, us.length * 9 + 4, none⟩ = some (.int .i64 0) := own_cell HOS.out (zT_at us 4 (by omega)); have y4 := own_frozen HOS.out (us.length * 9 + 4); have d5 : w2.cell? ⟨g, us.length * 9 + 5, none⟩ = some (.int .i64 0) := own_cell HOU.out (zT_at us 5 (by omega)); have e5 := own_frozen HOU.out (us.length * 9 + 5); have x5 : (w2.setCell ⟨rb, 0, none⟩ (.slice (some ⟨g, 0, none⟩) (us.length + 1) cap2)).cell? ⟨g, us.length * 9 + 5, none⟩ = some (.int .i64 0) := own_cell HOS.out (zT_at us 5 (by omega)); have y5 := own_frozen HOS.out (us.length * 9 + 5); have d6 : w2.cell? ⟨g, us.length * 9 + 6, none⟩ = some (.bool false) := own_cell HOU.out (zT_at us 6 (by omega)); have e6 := own_frozen HOU.out (us.length * 9 + 6); have x6 : (w2.setCell ⟨rb, 0, none⟩ (.slice (some ⟨g, 0, none⟩) (us.length + 1) cap2)).cell? ⟨g, us.length * 9 + 6, none⟩ = some (.bool false) := own_cell HOS.out (zT_at us 6 (by omega)); have y6 := own_frozen HOS.out (us.length * 9 + 6); have d7 : w2.cell? ⟨g, us.length * 9 + 7, none⟩ = some (.int .i64 0) := own_cell HOU.out (zT_at us 7 (by omega)); have e7 := own_frozen HOU.out (us.length * 9 + 7); have x7 : (w2.setCell ⟨rb, 0, none⟩ (.slice (some ⟨g, 0, none⟩) (us.length + 1) cap2)).cell? ⟨g, us.length * 9 + 7, none⟩ = some (.int .i64 0) := own_cell HOS.out (zT_at us 7 (by omega)); have y7 := own_frozen HOS.out (us.length * 9 + 7); have d8 : w2.cell? ⟨g, us.length * 9 + 8, none⟩ = some (.string ⟨#[]⟩) := own_cell HOU.out (zT_at us 8 (by omega)); have e8 := own_frozen HOU.out (us.length * 9 + 8); have x8 : (w2.setCell ⟨rb, 0, none⟩ (.slice (some ⟨g, 0, none⟩) (us.length + 1) cap2)).cell? ⟨g, us.length * 9 + 8, none⟩ = some (.string ⟨#[]⟩) := own_cell HOS.out (zT_at us 8 (by omega)); have y8 := own_frozen HOS.out (us.length * 9 + 8); have q5 : (((((((((w2.setCell ⟨g, us.length * 9, none⟩ (.int .i64 k)).setCell ⟨g, us.length * 9 + 1, none⟩ (.slice ra r.length rc)).setCell ⟨g, us.length * 9 + 2, none⟩ (.int .i64 ast)).setCell ⟨g, us.length * 9 + 3, none⟩ (.slice sa l.length sc)).setCell ⟨g, us.length * 9 + 4, none⟩ (.int .i64 mn)).setCell ⟨g, us.length * 9 + 5, none⟩ (.int .i64 mx)).setCell ⟨g, us.length * 9 + 6, none⟩ (.bool z)).setCell ⟨g, us.length * 9 + 7, none⟩ (.int .i64 ix)).setCell ⟨g, us.length * 9 + 8, none⟩ (.string nm)).cell? ⟨rb, 0, none⟩ = some (.slice A us.length c) := ((kept9 w2 g (us.length * 9) (.int .i64 k) (.slice ra r.length rc) (.int .i64 ast) (.slice sa l.length sc) (.int .i64 mn) (.int .i64 mx) (.bool z) (.int .i64 ix) (.string nm)).cell (p := ⟨rb, 0, none⟩) q3 (by simpa using hgr.symm)).trans q1; have q6 := (hb2.kept (kept9 w2 g (us.length * 9) (.int .i64 k) (.slice ra r.length rc) (.int .i64 ast) (.slice sa l.length sc) (.int .i64 mn) (.int .i64 mx) (.bool z) (.int .i64 ix) (.string nm)) (by simpa using hgr.symm)).frozen 0; have HGO := Lib.hid hgo; have HGR := Lib.hid hgr; have HB3 := Lib.hid hb2; have HG2 := Lib.hid hg2; clear hgo hgr hb2 hg2 hou2 hat2))
    all_goals
      have hk0 := ((Kept.of_below (L := []) HBA.out).trans ((Kept.of_below (L := []) HB12.out).trans ((Kept.drew (L := [])).trans (Kept.of_grown' HG2.out)))).more (M := (Value.slice A us.length c).ownBlock.toList) (by intro k hk; simp at hk ⊢; exact .inl hk)
      have hu0 : (Ta.mk k r ra rc ast l sa sc mn mx z ix nm).vals = [.int .i64 k, .slice ra r.length rc, .int .i64 ast, .slice sa l.length sc, .int .i64 mn, .int .i64 mx, .bool z, .int .i64 ix, .string nm] := rfl
      go_end0
      refine ⟨rfl, ?_⟩
      first
        | with_reducible exact put_finA HR.out HT.out hk0 HGO.out HGR.out HB3.out HOU.out hu0
        | with_reducible exact put_finB HR.out HT.out hk0 HGO.out HGR.out HB3.out HOU.out hu0
end Go.Proofs.Ytfgelkfnbohmmaa
