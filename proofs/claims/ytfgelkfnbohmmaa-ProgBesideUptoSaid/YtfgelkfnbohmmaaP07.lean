/- Trees in memory. No program here. -/
import Derived.Handy
import Derived.BigQuiet
import Derived.Deep.QuietTactic
import Derived.Test.YtfgelkfnbohmmaaP00
import Derived.Test.YtfgelkfnbohmmaaP01
import Derived.Test.YtfgelkfnbohmmaaP03
namespace Go.Proofs.Ytfgelkfnbohmmaa
open Go.RowKit
/-- A tree, and where its lists stand. -/
inductive Ta where
  | mk (kind : Int) (rng : List (Int × Int)) (ra : Option Addr) (rc : Nat) (ast : Int) (subs : List Ta) (sa : Option Addr) (sc : Nat) (mn mx : Int) (lz : Bool) (ix : Int) (nm : ByteArray)
def Ta.subs : Ta → List Ta | .mk _ _ _ _ _ l _ _ _ _ _ _ _ => l
def Ta.vals : Ta → List Value | .mk k r ra rc a l sa sc n m z i s => [.int .i64 k, .slice ra r.length rc, .int .i64 a, .slice sa l.length sc, .int .i64 n, .int .i64 m, .bool z, .int .i64 i, .string s]
def Ta.val (t : Ta) : Value := .agg t.vals.toArray
def rowT (l : List Ta) : List Value := l.flatMap Ta.vals
theorem Ta.vals_length (t : Ta) : t.vals.length = 9 := by cases t; rfl
theorem rowT_length : ∀ l : List Ta, (rowT l).length = l.length * 9
  | [] => rfl
  | t :: l => by
    have ih := rowT_length l
    unfold rowT at ih ⊢
    rw [List.flatMap_cons, List.length_append, Ta.vals_length, ih, List.length_cons]; omega
theorem rowT_append (a b : List Ta) : rowT (a ++ b) = rowT a ++ rowT b := by unfold rowT; rw [List.flatMap_append]
theorem rowT_cons (t : Ta) (l : List Ta) : rowT (t :: l) = t.vals ++ rowT l := rfl
theorem rowT_get : ∀ (l : List Ta) (j q : Nat) (t : Ta), l[j]? = some t → q < 9 → (rowT l)[j * 9 + q]? = t.vals[q]?
  | [], j, q, t, h, _ => by simp at h
  | u :: l, 0, q, t, h, hq => by
    simp only [List.getElem?_cons_zero, Option.some.injEq] at h
    subst h
    rw [rowT_cons, Nat.zero_mul, Nat.zero_add]
    exact List.getElem?_append_left (by rw [Ta.vals_length]; exact hq)
  | u :: l, j + 1, q, t, h, hq => by
    have := rowT_get l j q t (by simpa using h) hq
    have e1 : (j + 1) * 9 + q = 9 + (j * 9 + q) := by omega
    rw [e1, rowT_cons, List.getElem?_append_right (by rw [Ta.vals_length]; omega), Ta.vals_length, ← this]
    simp
theorem Ta.ind {P : Ta → Prop} (h : ∀ t, (∀ s ∈ t.subs, P s) → P t) : ∀ t, P t := fun t =>
  Ta.rec (motive_1 := P) (motive_2 := fun l => ∀ s ∈ l, P s) (fun k r ra rc a l sa sc n m z i s ih => h (.mk k r ra rc a l sa sc n m z i s) ih) (by simp) (fun a l ha hl => by intro s hs; rcases List.mem_cons.1 hs with rfl | hs; exact ha; exact hl s hs) t
mutual
/-- The tree alone. -/
def Ta.tr : Ta → Tr.Tr
  | .mk k r _ _ a l _ _ n m z i s => .mk k r a (trs l) n m z i s
def trs : List Ta → List Tr.Tr
  | [] => []
  | t :: l => t.tr :: trs l
end
theorem trs_map : ∀ l : List Ta, trs l = l.map Ta.tr
  | [] => rfl
  | t :: l => by rw [trs, trs_map l]; rfl
theorem trs_length (l : List Ta) : (trs l).length = l.length := by rw [trs_map, List.length_map]
theorem Ta.tr_subs (t : Ta) : t.tr.subs = t.subs.map Ta.tr := by cases t; rw [Ta.tr, trs_map]; rfl
/-- A slice reads as cells, in blocks of S. -/
def RdA (w : World) (S : Nat → Prop) (size : Nat) (A : Option Addr) (n c : Nat) (xs : List Value) : Prop :=
  n ≤ c ∧ c ≤ 9223372036854775807 ∧ xs.length = n * size ∧ (A = none → c = 0) ∧ (0 < n → ∃ b off, A = some ⟨b, off, none⟩ ∧ S b ∧ ∀ j u, xs[j]? = some u → w.cell? ⟨b, off + j, none⟩ = some u)
mutual
def RT (w : World) (S : Nat → Prop) : Ta → Prop
  | .mk _ r ra rc _ l sa sc _ _ _ _ s => (RdA w S 2 ra r.length rc (flat r) ∧ r.length ≤ 1048576 ∧ l.length ≤ 1048576 ∧ s.size ≤ 1048576) ∧ RdA w S 9 sa l.length sc (rowT l) ∧ RTs w S l
def RTs (w : World) (S : Nat → Prop) : List Ta → Prop
  | [] => True
  | t :: l => RT w S t ∧ RTs w S l
end
theorem RTs_iff {w : World} {S : Nat → Prop} : ∀ l : List Ta, RTs w S l ↔ ∀ t ∈ l, RT w S t
  | [] => by simp [RTs]
  | t :: l => by rw [RTs, RTs_iff l]; simp
section
variable {w w' : World} {S S' : Nat → Prop} {size n c B : Nat} {A : Option Addr} {xs : List Value} {t : Ta} {l : List Ta}
theorem RdA.reads (h : RdA w S size A n c xs) (hS : ∀ b, S b → b < B) : Reads w B size A n c xs :=
  ⟨h.1, h.2.1, h.2.2.1, fun hn => by
    obtain ⟨b, off, e, hb, hc⟩ := h.2.2.2.2 hn
    exact ⟨b, off, e, hS b hb, hc⟩⟩
theorem RdA.of_reads (h : Reads w B size A n c xs) (hA : A = none → c = 0) : RdA w (· < B) size A n c xs := ⟨h.1, h.2.1, h.2.2.1, hA, h.2.2.2⟩
theorem RdA.mono (h : RdA w S size A n c xs) (hS : ∀ b, S b → S' b) : RdA w S' size A n c xs :=
  ⟨h.1, h.2.1, h.2.2.1, h.2.2.2.1, fun hn => by
    obtain ⟨b, off, e, hb, hc⟩ := h.2.2.2.2 hn
    exact ⟨b, off, e, hS b hb, hc⟩⟩
theorem RdA.go (h : RdA w S size A n c xs) (hS : ∀ b, S b → w'.heap[b]? = w.heap[b]?) : RdA w' S size A n c xs :=
  ⟨h.1, h.2.1, h.2.2.1, h.2.2.2.1, fun hn => by
    obtain ⟨b, off, e, hb, hc⟩ := h.2.2.2.2 hn
    exact ⟨b, off, e, hb, fun j u hu => (World.cell?_of_block (a := ⟨b, off + j, none⟩) (hS b hb)).trans (hc j u hu)⟩⟩
theorem RdA.none_ : RdA w S size none 0 0 [] := ⟨Nat.le_refl _, by omega, by simp, fun _ => rfl, fun h => absurd h (by omega)⟩
theorem RT.parts {k : Int} {r : List (Int × Int)} {ra : Option Addr} {rc : Nat} {a : Int} {sa : Option Addr} {sc : Nat} {mn mx : Int} {z : Bool} {i : Int} {s : ByteArray} (h : RT w S (.mk k r ra rc a l sa sc mn mx z i s)) :
    (RdA w S 2 ra r.length rc (flat r) ∧ r.length ≤ 1048576 ∧ l.length ≤ 1048576 ∧ s.size ≤ 1048576) ∧ RdA w S 9 sa l.length sc (rowT l) ∧ ∀ t ∈ l, RT w S t := by
  rw [RT, RTs_iff] at h; exact h
theorem RT.of {k : Int} {r : List (Int × Int)} {ra : Option Addr} {rc : Nat} {a : Int} {sa : Option Addr} {sc : Nat} {mn mx : Int} {z : Bool} {i : Int} {s : ByteArray}
    (h1 : RdA w S 2 ra r.length rc (flat r) ∧ r.length ≤ 1048576 ∧ l.length ≤ 1048576 ∧ s.size ≤ 1048576) (h2 : RdA w S 9 sa l.length sc (rowT l)) (h3 : ∀ t ∈ l, RT w S t) : RT w S (.mk k r ra rc a l sa sc mn mx z i s) := by
  rw [RT, RTs_iff]; exact ⟨h1, h2, h3⟩
theorem RT.mono (h : RT w S t) (hS : ∀ b, S b → S' b) : RT w S' t := by
  induction t using Ta.ind with
  | h t ih =>
    cases t with
    | mk k r ra rc a l sa sc n m z i s =>
      obtain ⟨h1, h2, h3⟩ := h.parts
      exact RT.of ⟨h1.1.mono hS, h1.2⟩ (h2.mono hS) fun t ht => ih t ht (h3 t ht)
theorem RT.go (h : RT w S t) (hS : ∀ b, S b → w'.heap[b]? = w.heap[b]?) : RT w' S t := by
  induction t using Ta.ind with
  | h t ih =>
    cases t with
    | mk k r ra rc a l sa sc n m z i s =>
      obtain ⟨h1, h2, h3⟩ := h.parts
      exact RT.of ⟨h1.1.go hS, h1.2⟩ (h2.go hS) fun t ht => ih t ht (h3 t ht)
/-- What lies below B stays. -/
theorem RT.below (h : RT w S t) (hS : ∀ b, S b → b < B) (hb : Below B w w') : RT w' S t := h.go fun b hb' => hb.block b (hS b hb')
theorem RT.drewN (h : RT w S t) (k : Nat) : RT (w.drewN k) S t := h.go fun _ _ => rfl
end
/-- Blocks that were there, but those of L. -/
def Off (w : World) (L : List Nat) : Nat → Prop := fun b => b < w.heap.size ∧ b ∉ L
section
variable {w w' : World} {L M : List Nat} {t : Ta}
/-- Writes to M: what does not read there stays, and what is new is not of M. -/
theorem RT.kept (h : RT w (Off w L) t) (k : Kept w w' M) (hM : ∀ b ∈ M, b ∈ L ∨ w.heap.size ≤ b) {L' : List Nat} (hL : ∀ b ∈ L', b ∈ L ∨ w.heap.size ≤ b) : RT w' (Off w' L') t := by
  refine (h.go fun b hb => k.block b hb.1 fun hm => ?_).mono fun b hb => ⟨Nat.lt_of_lt_of_le hb.1 k.size, fun hm => ?_⟩
  · rcases hM b hm with e | e
    · exact hb.2 e
    · exact absurd hb.1 (by omega)
  · rcases hL b hm with e | e
    · exact hb.2 e
    · exact absurd hb.1 (by omega)
end
end Go.Proofs.Ytfgelkfnbohmmaa
namespace Go.Proofs.Ytfgelkfnbohmmaa
open Go.RowKit
/-- Blocks from B on, that are there, but those of L. -/
def Fr (B : Nat) (L : List Nat) (w : World) : Nat → Prop := fun b => B ≤ b ∧ b < w.heap.size ∧ b ∉ L
section
variable {w w' : World} {B B' : Nat} {L L' M : List Nat} {t : Ta} {S : Nat → Prop}
theorem RT.fr_kept (h : RT w (Fr B L w) t) (k : Kept w w' M) (hM : ∀ b ∈ M, b ∈ L ∨ w.heap.size ≤ b ∨ b < B) (hL : ∀ b ∈ L', b ∈ L ∨ w.heap.size ≤ b ∨ b < B) : RT w' (Fr B L' w') t := by
  refine (h.go fun b hb => k.block b hb.2.1 fun hm => ?_).mono fun b hb => ⟨hb.1, Nat.lt_of_lt_of_le hb.2.1 k.size, fun hm => ?_⟩
  · rcases hM b hm with e | e | e
    · exact hb.2.2 e
    · have := hb.2.1; omega
    · have := hb.1; omega
  · rcases hL b hm with e | e | e
    · exact hb.2.2 e
    · have := hb.2.1; omega
    · have := hb.1; omega
theorem RT.fr_below (h : RT w (Fr B L w) t) (k : Below w.heap.size w w') : RT w' (Fr B L w') t :=
  h.fr_kept (Kept.of_below (L := []) k) (by simp) (fun b hb => .inl hb)
/-- What lies from the later B' on lies from B on, and in no block of L that was there then. -/
theorem RT.fr_in (h : RT w (Fr B' [] w) t) (hB : B ≤ B') (hL : ∀ b ∈ L, b < B') : RT w (Fr B L w) t :=
  h.mono fun b hb => ⟨Nat.le_trans hB hb.1, hb.2.1, fun hm => by have := hL b hm; have := hb.1; omega⟩
theorem RT.fr_less (h : RT w (Fr B L w) t) (hL : ∀ b ∈ L', b ∈ L) : RT w (Fr B L' w) t :=
  h.mono fun b hb => ⟨hb.1, hb.2.1, fun hm => hb.2.2 (hL b hm)⟩
theorem Fr.lt {b : Nat} (h : Fr B L w b) : b < w.heap.size := h.2.1
theorem RdA.fr_kept {size n c : Nat} {A : Option Addr} {xs : List Value} (h : RdA w (Fr B L w) size A n c xs) (k : Kept w w' M) (hM : ∀ b ∈ M, b ∈ L ∨ w.heap.size ≤ b ∨ b < B) (hL : ∀ b ∈ L', b ∈ L ∨ w.heap.size ≤ b ∨ b < B) : RdA w' (Fr B L' w') size A n c xs := by
  refine (h.go fun b hb => k.block b hb.2.1 fun hm => ?_).mono fun b hb => ⟨hb.1, Nat.lt_of_lt_of_le hb.2.1 k.size, fun hm => ?_⟩
  · rcases hM b hm with e | e | e
    · exact hb.2.2 e
    · have := hb.2.1; omega
    · have := hb.1; omega
  · rcases hL b hm with e | e | e
    · exact hb.2.2 e
    · have := hb.2.1; omega
    · have := hb.1; omega
theorem RdA.fr_below {size n c : Nat} {A : Option Addr} {xs : List Value} (h : RdA w (Fr B L w) size A n c xs) (k : Below w.heap.size w w') : RdA w' (Fr B L w') size A n c xs :=
  h.fr_kept (Kept.of_below (L := []) k) (by simp) (fun b hb => .inl hb)
theorem RdA.fr_less {size n c : Nat} {A : Option Addr} {xs : List Value} (h : RdA w (Fr B L w) size A n c xs) (hL : ∀ b ∈ L', b ∈ L) : RdA w (Fr B L' w) size A n c xs :=
  h.mono fun b hb => ⟨hb.1, hb.2.1, fun hm => hb.2.2 (hL b hm)⟩
theorem RdA.fr_in {size n c : Nat} {A : Option Addr} {xs : List Value} (h : RdA w (Fr B' [] w) size A n c xs) (hB : B ≤ B') (hL : ∀ b ∈ L, b < B') : RdA w (Fr B L w) size A n c xs :=
  h.mono fun b hb => ⟨Nat.le_trans hB hb.1, hb.2.1, fun hm => by have := hL b hm; have := hb.1; omega⟩
/-- An own row reads. -/
theorem RdA.of_own {base : Nat} {e : TypeId} {size n : Nat} {v : Value} {xs : List Value} (h : w.ownsRow base e size v n xs) (hn : ∀ b, v.ownBlock = some b → b ∉ L) : ∃ A c, v = .slice A n c ∧ RdA w (Fr base L w) size A n c xs := by
  rcases h.2 with ⟨rfl, rfl⟩ | ⟨g, cap, cur, rfl, hg, hh, hnc, hm, hsz, ht⟩
  · refine ⟨none, 0, rfl, Nat.le_refl _, by omega, h.1, fun _ => rfl, fun h => absurd h (by omega)⟩
  · refine ⟨some ⟨g, 0, none⟩, cap, rfl, hnc, by unfold maxLen at hm; omega, h.1, (fun h => by cases h), fun _ => ⟨g, 0, rfl, ⟨hg, (Array.getElem?_eq_some_iff.1 hh).1, hn g rfl⟩, fun j u hu => ?_⟩⟩
    rw [Nat.zero_add, cell_of_row w g j cur e (0, 0) hh]
    rw [← ht, List.getElem?_take] at hu
    split at hu
    · simpa using hu
    · cases hu
/-- An own row is a block. -/
theorem Blk.of_own {base : Nat} {e : TypeId} {size n : Nat} {v : Value} {xs : List Value} (h : w.ownsRow base e size v n xs) (hn : 0 < n) : ∃ g c zs, v = .slice (some ⟨g, 0, none⟩) n c ∧ Blk w g e (xs ++ zs) ∧ base ≤ g ∧ n ≤ c ∧ c ≤ 9223372036854775807 := by
  rcases h.2 with ⟨_, h0⟩ | ⟨g, cap, cur, rfl, hg, hh, hnc, hm, hsz, ht⟩
  · omega
  · refine ⟨g, cap, cur.toList.drop (n * size), rfl, ?_, hg, hnc, by unfold maxLen at hm; omega⟩
    unfold Blk
    rw [← ht, List.take_append_drop, Array.toArray_toList]
    exact hh
theorem own_parts {base : Nat} {e : TypeId} {size n : Nat} {v : Value} {xs : List Value} (h : w.ownsRow base e size v n xs) : ∃ A c g zs, v = .slice A n c ∧ n ≤ c ∧ c ≤ 9223372036854775807 ∧ (A = none → c = 0) ∧ base ≤ g ∧ (0 < n → A = some ⟨g, 0, none⟩ ∧ Blk w g e (xs ++ zs)) := by
  rcases Nat.eq_zero_or_pos n with h0 | h0
  · obtain ⟨A, c, rfl, hr⟩ := RdA.of_own (L := []) h (by simp)
    exact ⟨A, c, base, [], rfl, hr.1, hr.2.1, hr.2.2.2.1, Nat.le_refl _, fun h => absurd h (by omega)⟩
  · obtain ⟨g, c, zs, rfl, hb, hg, hn, hc⟩ := Blk.of_own h h0
    exact ⟨_, c, g, zs, rfl, hn, hc, (fun h => by cases h), hg, fun _ => ⟨rfl, hb⟩⟩
theorem set_next {us l : List Ta} {i : Nat} {u : Ta} (hl : us.length = i) (hi : i < l.length) : (us ++ l.drop i).set i u = (us ++ [u]) ++ l.drop (i + 1) := by
  rw [List.set_append_right _ _ (by omega), hl, Nat.sub_self, List.append_assoc, List.drop_eq_getElem_cons hi]
  rfl
theorem get_next {us l : List Ta} {i : Nat} {u : Ta} (hl : us.length = i) (hu : l[i]? = some u) : (us ++ l.drop i)[i]? = some u := by
  rw [List.getElem?_append_right (by omega), hl, Nat.sub_self, List.getElem?_drop]
  simpa using hu
theorem Ta.one (t : Ta) : ∀ u ∈ t.vals, u.oneCell' = true := by
  cases t with
  | mk k r ra rc ast l sa sc mn mx z ix nm =>
    intro u hu
    simp only [Ta.vals, List.mem_cons, List.not_mem_nil, or_false] at hu
    rcases hu with rfl | rfl | rfl | rfl | rfl | rfl | rfl | rfl | rfl <;> rfl
theorem rowT_one (l : List Ta) : ∀ u ∈ rowT l, u.oneCell' = true := by
  intro u hu
  unfold rowT at hu
  obtain ⟨t, _, ht⟩ := List.mem_flatMap.1 hu
  exact t.one u ht
/-- Nine cells of a row of nodes are written. -/
theorem rowT_set {l : List Ta} {i : Nat} (hi : i < l.length) (zs : List Value) (k : Value) (r a s n m z x nm : Value) (u : Ta) (hu : u.vals = [k, r, a, s, n, m, z, x, nm]) :
    (((((((((rowT l ++ zs).set (i * 9) k).set (i * 9 + 1) r).set (i * 9 + 2) a).set (i * 9 + 3) s).set (i * 9 + 4) n).set (i * 9 + 5) m).set (i * 9 + 6) z).set (i * 9 + 7) x).set (i * 9 + 8) nm = rowT (l.set i u) ++ zs := by
  have hlen := rowT_length l
  have hlen2 := rowT_length (l.set i u)
  rw [List.length_set] at hlen2
  refine List.ext_getElem? fun j => ?_
  have hgo : ∀ q, q < 9 → (rowT (l.set i u))[i * 9 + q]? = u.vals[q]? := fun q hq => rowT_get _ _ _ _ (by rw [List.getElem?_set_self hi]) hq
  have hfar : ∀ j, j < l.length * 9 → (j < i * 9 ∨ i * 9 + 9 ≤ j) → (rowT (l.set i u))[j]? = (rowT l)[j]? := by
    intro j hj hor
    have hq : j / 9 < l.length := by omega
    have e : j = j / 9 * 9 + j % 9 := by omega
    have hne : i ≠ j / 9 := by omega
    rw [e]
    rw [rowT_get l (j / 9) (j % 9) _ (List.getElem?_eq_getElem hq) (by omega)]
    exact rowT_get _ _ _ _ (by rw [List.getElem?_set_ne hne, List.getElem?_eq_getElem hq]) (by omega)
  by_cases hj : j < l.length * 9
  · have hap : (rowT (l.set i u) ++ zs)[j]? = (rowT (l.set i u))[j]? := List.getElem?_append_left (by rw [hlen2]; exact hj)
    rw [hap]
    by_cases hor : j < i * 9 ∨ i * 9 + 9 ≤ j
    · rw [hfar j hj hor]
      rw [List.getElem?_set_ne (by omega), List.getElem?_set_ne (by omega), List.getElem?_set_ne (by omega), List.getElem?_set_ne (by omega), List.getElem?_set_ne (by omega), List.getElem?_set_ne (by omega), List.getElem?_set_ne (by omega), List.getElem?_set_ne (by omega), List.getElem?_set_ne (by omega)]
      rw [List.getElem?_append_left (by rw [hlen]; exact hj)]
    · obtain ⟨q, hq, rfl⟩ : ∃ q, q < 9 ∧ j = i * 9 + q := ⟨j - i * 9, by omega, by omega⟩
      rw [hgo q hq, hu]
      have hl9 : ∀ q', q' < 9 → i * 9 + q' < (rowT l ++ zs).length := fun q' hq' => by rw [List.length_append, hlen]; omega
      have h00 := hl9 0 (by omega)
      rw [Nat.add_zero] at h00
      rcases (show q = 0 ∨ q = 1 ∨ q = 2 ∨ q = 3 ∨ q = 4 ∨ q = 5 ∨ q = 6 ∨ q = 7 ∨ q = 8 from by omega) with rfl | rfl | rfl | rfl | rfl | rfl | rfl | rfl | rfl
      all_goals simp [List.getElem?_set]
      all_goals (rw [hlen]; omega)
  · rw [List.getElem?_set_ne (by omega), List.getElem?_set_ne (by omega), List.getElem?_set_ne (by omega), List.getElem?_set_ne (by omega), List.getElem?_set_ne (by omega), List.getElem?_set_ne (by omega), List.getElem?_set_ne (by omega), List.getElem?_set_ne (by omega), List.getElem?_set_ne (by omega)]
    rw [List.getElem?_append_right (by rw [hlen]; omega), List.getElem?_append_right (by rw [hlen2]; omega), hlen, hlen2]
/-- .. in memory. -/
theorem Blk.set9 {g : Nat} {ty : TypeId} {l : List Ta} {zs : List Value} {i : Nat} (h : Blk w g ty (rowT l ++ zs)) (hi : i < l.length) {k r a s n m z x nm : Value} {u : Ta} (hu : u.vals = [k, r, a, s, n, m, z, x, nm]) :
    Blk (((((((((w.setCell ⟨g, i * 9, none⟩ k).setCell ⟨g, i * 9 + 1, none⟩ r).setCell ⟨g, i * 9 + 2, none⟩ a).setCell ⟨g, i * 9 + 3, none⟩ s).setCell ⟨g, i * 9 + 4, none⟩ n).setCell ⟨g, i * 9 + 5, none⟩ m).setCell ⟨g, i * 9 + 6, none⟩ z).setCell ⟨g, i * 9 + 7, none⟩ x).setCell ⟨g, i * 9 + 8, none⟩ nm) g ty (rowT (l.set i u) ++ zs) := by
  rw [← rowT_set hi zs k r a s n m z x nm u hu]
  exact ((((((((h.set_ (i * 9) k).set_ (i * 9 + 1) r).set_ (i * 9 + 2) a).set_ (i * 9 + 3) s).set_ (i * 9 + 4) n).set_ (i * 9 + 5) m).set_ (i * 9 + 6) z).set_ (i * 9 + 7) x).set_ (i * 9 + 8) nm
theorem kept9 (w : World) (g i : Nat) (k r a s n m z x nm : Value) :
    Kept w (((((((((w.setCell ⟨g, i, none⟩ k).setCell ⟨g, i + 1, none⟩ r).setCell ⟨g, i + 2, none⟩ a).setCell ⟨g, i + 3, none⟩ s).setCell ⟨g, i + 4, none⟩ n).setCell ⟨g, i + 5, none⟩ m).setCell ⟨g, i + 6, none⟩ z).setCell ⟨g, i + 7, none⟩ x).setCell ⟨g, i + 8, none⟩ nm) [g] :=
  (((((((((Kept.setCell ⟨g, i, none⟩ k).trans (Kept.setCell ⟨g, i + 1, none⟩ r)).trans (Kept.setCell ⟨g, i + 2, none⟩ a)).trans (Kept.setCell ⟨g, i + 3, none⟩ s)).trans (Kept.setCell ⟨g, i + 4, none⟩ n)).trans (Kept.setCell ⟨g, i + 5, none⟩ m)).trans (Kept.setCell ⟨g, i + 6, none⟩ z)).trans (Kept.setCell ⟨g, i + 7, none⟩ x)).trans (Kept.setCell ⟨g, i + 8, none⟩ nm)).more (by intro b hb; simp at hb; exact .inl (by simp [hb]))
end
end Go.Proofs.Ytfgelkfnbohmmaa
namespace Go.Proofs.Ytfgelkfnbohmmaa
open Go.RowKit Go.Proofs.Ytfgelkfnbohmmaa.Tr
theorem sizes_take {l : List Ta} {i : Nat} {t : Ta} (h : l[i]? = some t) : sizes (trs (l.take (i + 1))) = sizes (trs (l.take i)) + size t.tr := by
  rw [List.take_add_one, h, trs_map, trs_map, List.map_append]
  have : ∀ a b : List Tr, sizes (a ++ b) = sizes a + sizes b := by
    intro a b
    induction a with
    | nil => simp [sizes]
    | cons x a ih => rw [List.cons_append, sizes, sizes, ih]; omega
  rw [this]; simp [sizes]
/-- The cells of a list's member. -/
theorem RdA.node {w : World} {S : Nat → Prop} {b off c : Nat} {l : List Ta} {j : Nat} {t : Ta} (h : RdA w S 9 (some ⟨b, off, none⟩) l.length c (rowT l)) (ht : l[j]? = some t) {q : Nat} (hq : q < 9) : w.cell? ⟨b, off + (j * 9 + q), none⟩ = t.vals[q]? := by
  have hl : j < l.length := (List.getElem?_eq_some_iff.1 ht).1
  obtain ⟨b', off', e, _, hc⟩ := h.2.2.2.2 (by omega)
  simp only [Option.some.injEq, Addr.mk.injEq, and_true] at e
  obtain ⟨rfl, rfl⟩ := e
  have hg := rowT_get l j q t ht hq
  have hv : q < t.vals.length := by rw [Ta.vals_length]; exact hq
  rw [List.getElem?_eq_getElem hv] at hg ⊢
  exact hc _ _ hg
end Go.Proofs.Ytfgelkfnbohmmaa
