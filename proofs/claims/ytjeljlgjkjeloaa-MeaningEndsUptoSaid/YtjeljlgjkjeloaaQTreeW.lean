/- Trees in memory of their own: words. No program here but the cells of a node. -/
import Derived.Test.YtjeljlgjkjeloaaQTree
import Derived.Test.YtjeljlgjkjeloaaQMem
namespace Go.Proofs.Ytjeljlgjkjeloaa
open Go.RowKit

/-- Blocks from B on, that are there, but those of L. -/
def Fr (B : Nat) (L : List Nat) (w : World) : Nat → Prop := fun b => B ≤ b ∧ b < w.heap.size ∧ b ∉ L
section
variable {w w' : World} {B B' : Nat} {L L' M : List Nat} {t : Ta} {S : Nat → Prop}
theorem RT.fr_kept (h : RT w (Fr B L w) t) (k : Kept w w' M) (hM : ∀ b ∈ M, b ∈ L ∨ w.heap.size ≤ b ∨ b < B) (hL : ∀ b ∈ L', b ∈ L ∨ w.heap.size ≤ b ∨ b < B) : RT w' (Fr B L' w') t := by
  refine (h.go fun b hb => k.block b hb.2.1 fun hm => ?_).mono fun b hb => ⟨hb.1, Nat.lt_of_lt_of_le hb.2.1 k.size, fun hm => ?_⟩
  · rcases hM b hm with e | e | e
    · exact hb.2.2 e
    · have := hb.2.1; omega
    · have := hb.1; omega
  · rcases hL b hm with e | e | e
    · exact hb.2.2 e
    · have := hb.2.1; omega
    · have := hb.1; omega
theorem RT.fr_below (h : RT w (Fr B L w) t) (k : Below w.heap.size w w') : RT w' (Fr B L w') t :=
  h.fr_kept (Kept.of_below (L := []) k) (by simp) (fun b hb => .inl hb)
/-- What lies from the later B' on lies from B on, and in no block of L that was there then. -/
theorem RT.fr_in (h : RT w (Fr B' [] w) t) (hB : B ≤ B') (hL : ∀ b ∈ L, b < B') : RT w (Fr B L w) t :=
  h.mono fun b hb => ⟨Nat.le_trans hB hb.1, hb.2.1, fun hm => by have := hL b hm; have := hb.1; omega⟩
theorem RT.fr_less (h : RT w (Fr B L w) t) (hL : ∀ b ∈ L', b ∈ L) : RT w (Fr B L' w) t :=
  h.mono fun b hb => ⟨hb.1, hb.2.1, fun hm => hb.2.2 (hL b hm)⟩
theorem RT.fr_low (h : RT w (Fr B L w) t) (hB : B' ≤ B) : RT w (Fr B' L w) t :=
  h.mono fun b hb => ⟨Nat.le_trans hB hb.1, hb.2.1, hb.2.2⟩
theorem Fr.lt {b : Nat} (h : Fr B L w b) : b < w.heap.size := h.2.1
theorem RdA.fr_kept {size n c : Nat} {A : Option Addr} {xs : List Value} (h : RdA w (Fr B L w) size A n c xs) (k : Kept w w' M) (hM : ∀ b ∈ M, b ∈ L ∨ w.heap.size ≤ b ∨ b < B) (hL : ∀ b ∈ L', b ∈ L ∨ w.heap.size ≤ b ∨ b < B) : RdA w' (Fr B L' w') size A n c xs := by
  refine (h.go fun b hb => k.block b hb.2.1 fun hm => ?_).mono fun b hb => ⟨hb.1, Nat.lt_of_lt_of_le hb.2.1 k.size, fun hm => ?_⟩
  · rcases hM b hm with e | e | e
    · exact hb.2.2 e
    · have := hb.2.1; omega
    · have := hb.1; omega
  · rcases hL b hm with e | e | e
    · exact hb.2.2 e
    · have := hb.2.1; omega
    · have := hb.1; omega
theorem RdA.fr_below {size n c : Nat} {A : Option Addr} {xs : List Value} (h : RdA w (Fr B L w) size A n c xs) (k : Below w.heap.size w w') : RdA w' (Fr B L w') size A n c xs :=
  h.fr_kept (Kept.of_below (L := []) k) (by simp) (fun b hb => .inl hb)
theorem RdA.fr_less {size n c : Nat} {A : Option Addr} {xs : List Value} (h : RdA w (Fr B L w) size A n c xs) (hL : ∀ b ∈ L', b ∈ L) : RdA w (Fr B L' w) size A n c xs :=
  h.mono fun b hb => ⟨hb.1, hb.2.1, fun hm => hb.2.2 (hL b hm)⟩
theorem RdA.fr_in {size n c : Nat} {A : Option Addr} {xs : List Value} (h : RdA w (Fr B' [] w) size A n c xs) (hB : B ≤ B') (hL : ∀ b ∈ L, b < B') : RdA w (Fr B L w) size A n c xs :=
  h.mono fun b hb => ⟨Nat.le_trans hB hb.1, hb.2.1, fun hm => by have := hL b hm; have := hb.1; omega⟩
/-- An own row reads. -/
theorem RdA.of_own {base : Nat} {e : TypeId} {size n : Nat} {v : Value} {xs : List Value} (h : w.ownsRow base e size v n xs) (hn : ∀ b, v.ownBlock = some b → b ∉ L) : ∃ A c, v = .slice A n c ∧ RdA w (Fr base L w) size A n c xs := by
  rcases h.2 with ⟨rfl, rfl⟩ | ⟨g, cap, cur, rfl, hg, hh, hnc, hm, hsz, ht⟩
  · refine ⟨none, 0, rfl, Nat.le_refl _, by omega, h.1, fun _ => rfl, fun h => absurd h (by omega)⟩
  · refine ⟨some ⟨g, 0, none⟩, cap, rfl, hnc, by unfold maxLen at hm; omega, h.1, (fun h => by cases h), fun _ => ⟨g, 0, rfl, ⟨hg, (Array.getElem?_eq_some_iff.1 hh).1, hn g rfl⟩, fun j u hu => ?_⟩⟩
    rw [Nat.zero_add, cell_of_row w g j cur e (0, 0) hh]
    rw [← ht, List.getElem?_take] at hu
    split at hu
    · simpa using hu
    · cases hu
/-- An own row is a block. -/
theorem Blk.of_own {base : Nat} {e : TypeId} {size n : Nat} {v : Value} {xs : List Value} (h : w.ownsRow base e size v n xs) (hn : 0 < n) : ∃ g c zs, v = .slice (some ⟨g, 0, none⟩) n c ∧ Blk w g e (xs ++ zs) ∧ base ≤ g ∧ n ≤ c ∧ c ≤ 9223372036854775807 := by
  rcases h.2 with ⟨_, h0⟩ | ⟨g, cap, cur, rfl, hg, hh, hnc, hm, hsz, ht⟩
  · omega
  · refine ⟨g, cap, cur.toList.drop (n * size), rfl, ?_, hg, hnc, by unfold maxLen at hm; omega⟩
    unfold Blk
    rw [← ht, List.take_append_drop, Array.toArray_toList]
    exact hh
theorem own_parts {base : Nat} {e : TypeId} {size n : Nat} {v : Value} {xs : List Value} (h : w.ownsRow base e size v n xs) : ∃ A c g zs, v = .slice A n c ∧ n ≤ c ∧ c ≤ 9223372036854775807 ∧ (A = none → c = 0) ∧ base ≤ g ∧ (0 < n → A = some ⟨g, 0, none⟩ ∧ Blk w g e (xs ++ zs)) := by
  rcases Nat.eq_zero_or_pos n with h0 | h0
  · obtain ⟨A, c, rfl, hr⟩ := RdA.of_own (L := []) h (by simp)
    exact ⟨A, c, base, [], rfl, hr.1, hr.2.1, hr.2.2.2.1, Nat.le_refl _, fun h => absurd h (by omega)⟩
  · obtain ⟨g, c, zs, rfl, hb, hg, hn, hc⟩ := Blk.of_own h h0
    exact ⟨_, c, g, zs, rfl, hn, hc, (fun h => by cases h), hg, fun _ => ⟨rfl, hb⟩⟩
theorem set_next {us l : List Ta} {i : Nat} {u : Ta} (hl : us.length = i) (hi : i < l.length) : (us ++ l.drop i).set i u = (us ++ [u]) ++ l.drop (i + 1) := by
  rw [List.set_append_right _ _ (by omega), hl, Nat.sub_self, List.append_assoc, List.drop_eq_getElem_cons hi]
  rfl
theorem get_next {us l : List Ta} {i : Nat} {u : Ta} (hl : us.length = i) (hu : l[i]? = some u) : (us ++ l.drop i)[i]? = some u := by
  rw [List.getElem?_append_right (by omega), hl, Nat.sub_self, List.getElem?_drop]
  simpa using hu
theorem Blk.rdA {g : Nat} {e : TypeId} {xs zs : List Value} {size n c : Nat} (h : Blk w g e (xs ++ zs)) (hn : n ≤ c) (hc : c ≤ 9223372036854775807) (hx : xs.length = n * size) (hS : S g) : RdA w S size (some ⟨g, 0, none⟩) n c xs :=
  ⟨hn, hc, hx, (fun h => by cases h), fun _ => ⟨g, 0, rfl, hS, fun j u hu => by
    rw [Nat.zero_add, h.cell, List.getElem?_append_left (List.getElem?_eq_some_iff.1 hu).1]; exact hu⟩⟩
theorem Ta.one (t : Ta) : ∀ u ∈ t.vals, u.oneCell' = true := by
  cases t with
  | mk k r ra rc ast l sa sc mn mx z ix nm =>
    intro u hu
    simp only [Ta.vals, List.mem_cons, List.not_mem_nil, or_false] at hu
    rcases hu with rfl | rfl | rfl | rfl | rfl | rfl | rfl | rfl | rfl <;> rfl
theorem rowT_one (l : List Ta) : ∀ u ∈ rowT l, u.oneCell' = true := by
  intro u hu
  unfold rowT at hu
  obtain ⟨t, _, ht⟩ := List.mem_flatMap.1 hu
  exact t.one u ht
/-- Nine cells of a row of nodes are written. -/
theorem rowT_set {l : List Ta} {i : Nat} (hi : i < l.length) (zs : List Value) (k : Value) (r a s n m z x nm : Value) (u : Ta) (hu : u.vals = [k, r, a, s, n, m, z, x, nm]) :
    (((((((((rowT l ++ zs).set (i * 9) k).set (i * 9 + 1) r).set (i * 9 + 2) a).set (i * 9 + 3) s).set (i * 9 + 4) n).set (i * 9 + 5) m).set (i * 9 + 6) z).set (i * 9 + 7) x).set (i * 9 + 8) nm = rowT (l.set i u) ++ zs := by
  have hlen := rowT_length l
  have hlen2 := rowT_length (l.set i u)
  rw [List.length_set] at hlen2
  refine List.ext_getElem? fun j => ?_
  have hgo : ∀ q, q < 9 → (rowT (l.set i u))[i * 9 + q]? = u.vals[q]? := fun q hq => rowT_get _ _ _ _ (by rw [List.getElem?_set_self hi]) hq
  have hfar : ∀ j, j < l.length * 9 → (j < i * 9 ∨ i * 9 + 9 ≤ j) → (rowT (l.set i u))[j]? = (rowT l)[j]? := by
    intro j hj hor
    have hq : j / 9 < l.length := by omega
    have e : j = j / 9 * 9 + j % 9 := by omega
    have hne : i ≠ j / 9 := by omega
    rw [e]
    rw [rowT_get l (j / 9) (j % 9) _ (List.getElem?_eq_getElem hq) (by omega)]
    exact rowT_get _ _ _ _ (by rw [List.getElem?_set_ne hne, List.getElem?_eq_getElem hq]) (by omega)
  by_cases hj : j < l.length * 9
  · have hap : (rowT (l.set i u) ++ zs)[j]? = (rowT (l.set i u))[j]? := List.getElem?_append_left (by rw [hlen2]; exact hj)
    rw [hap]
    by_cases hor : j < i * 9 ∨ i * 9 + 9 ≤ j
    · rw [hfar j hj hor]
      rw [List.getElem?_set_ne (by omega), List.getElem?_set_ne (by omega), List.getElem?_set_ne (by omega), List.getElem?_set_ne (by omega), List.getElem?_set_ne (by omega), List.getElem?_set_ne (by omega), List.getElem?_set_ne (by omega), List.getElem?_set_ne (by omega), List.getElem?_set_ne (by omega)]
      rw [List.getElem?_append_left (by rw [hlen]; exact hj)]
    · obtain ⟨q, hq, rfl⟩ : ∃ q, q < 9 ∧ j = i * 9 + q := ⟨j - i * 9, by omega, by omega⟩
      rw [hgo q hq, hu]
      have hl9 : ∀ q', q' < 9 → i * 9 + q' < (rowT l ++ zs).length := fun q' hq' => by rw [List.length_append, hlen]; omega
      have h00 := hl9 0 (by omega)
      rw [Nat.add_zero] at h00
      rcases (show q = 0 ∨ q = 1 ∨ q = 2 ∨ q = 3 ∨ q = 4 ∨ q = 5 ∨ q = 6 ∨ q = 7 ∨ q = 8 from by omega) with rfl | rfl | rfl | rfl | rfl | rfl | rfl | rfl | rfl
      all_goals simp [List.getElem?_set]
      all_goals (rw [hlen]; omega)
  · rw [List.getElem?_set_ne (by omega), List.getElem?_set_ne (by omega), List.getElem?_set_ne (by omega), List.getElem?_set_ne (by omega), List.getElem?_set_ne (by omega), List.getElem?_set_ne (by omega), List.getElem?_set_ne (by omega), List.getElem?_set_ne (by omega), List.getElem?_set_ne (by omega)]
    rw [List.getElem?_append_right (by rw [hlen]; omega), List.getElem?_append_right (by rw [hlen2]; omega), hlen, hlen2]
/-- .. in memory. -/
theorem Blk.set9 {g : Nat} {ty : TypeId} {l : List Ta} {zs : List Value} {i : Nat} (h : Blk w g ty (rowT l ++ zs)) (hi : i < l.length) {k r a s n m z x nm : Value} {u : Ta} (hu : u.vals = [k, r, a, s, n, m, z, x, nm]) :
    Blk (((((((((w.setCell ⟨g, i * 9, none⟩ k).setCell ⟨g, i * 9 + 1, none⟩ r).setCell ⟨g, i * 9 + 2, none⟩ a).setCell ⟨g, i * 9 + 3, none⟩ s).setCell ⟨g, i * 9 + 4, none⟩ n).setCell ⟨g, i * 9 + 5, none⟩ m).setCell ⟨g, i * 9 + 6, none⟩ z).setCell ⟨g, i * 9 + 7, none⟩ x).setCell ⟨g, i * 9 + 8, none⟩ nm) g ty (rowT (l.set i u) ++ zs) := by
  rw [← rowT_set hi zs k r a s n m z x nm u hu]
  exact ((((((((h.set_ (i * 9) k).set_ (i * 9 + 1) r).set_ (i * 9 + 2) a).set_ (i * 9 + 3) s).set_ (i * 9 + 4) n).set_ (i * 9 + 5) m).set_ (i * 9 + 6) z).set_ (i * 9 + 7) x).set_ (i * 9 + 8) nm
theorem kept9 (w : World) (g i : Nat) (k r a s n m z x nm : Value) :
    Kept w (((((((((w.setCell ⟨g, i, none⟩ k).setCell ⟨g, i + 1, none⟩ r).setCell ⟨g, i + 2, none⟩ a).setCell ⟨g, i + 3, none⟩ s).setCell ⟨g, i + 4, none⟩ n).setCell ⟨g, i + 5, none⟩ m).setCell ⟨g, i + 6, none⟩ z).setCell ⟨g, i + 7, none⟩ x).setCell ⟨g, i + 8, none⟩ nm) [g] :=
  (((((((((Kept.setCell ⟨g, i, none⟩ k).trans (Kept.setCell ⟨g, i + 1, none⟩ r)).trans (Kept.setCell ⟨g, i + 2, none⟩ a)).trans (Kept.setCell ⟨g, i + 3, none⟩ s)).trans (Kept.setCell ⟨g, i + 4, none⟩ n)).trans (Kept.setCell ⟨g, i + 5, none⟩ m)).trans (Kept.setCell ⟨g, i + 6, none⟩ z)).trans (Kept.setCell ⟨g, i + 7, none⟩ x)).trans (Kept.setCell ⟨g, i + 8, none⟩ nm)).more (by intro b hb; simp at hb; exact .inl (by simp [hb]))
end
end Go.Proofs.Ytjeljlgjkjeloaa
