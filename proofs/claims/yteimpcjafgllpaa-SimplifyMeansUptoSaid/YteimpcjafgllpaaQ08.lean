/- look: At, Holds. -/
import Derived.Handy
import Derived.Test.YteimpcjafgllpaaQ00
import Derived.Test.YteimpcjafgllpaaQ01
import Derived.Test.YteimpcjafgllpaaQ02
import Derived.Test.YteimpcjafgllpaaQ03
namespace Go.Proofs.Yteimpcjafgllpaa
open Go.RowKit Go.Proofs.Yteimpcjafgllpaa.Mach
theorem or_low : ∀ j < 6, ∀ s < 2 ^ j, bits .or .i64 ((s : Nat) : Int) ((2 ^ j : Nat) : Int) = ((s + 2 ^ j : Nat) : Int) := by decide +kernel
theorem andNot_bit : ∀ j < 6, ∀ s < 64, (bits .andNot .i64 ((2 ^ j : Nat) : Int) ((s : Nat) : Int) == 0) = decide (((s : Nat) : Int) / ((2 ^ j : Nat) : Int) % 2 = 1) := by decide +kernel
set_option maxHeartbeats 1000000 in
theorem holds_any (j s : Nat) (hj : j < 6) (hs : s < 64) (w : World) :
    Calls Try.prog 48 #[.int .i64 ((2 ^ j : Nat) : Int), .int .i64 (s : Int)] w fun e w' => e = .returned (.bool (decide (((s : Nat) : Int) / ((2 ^ j : Nat) : Int) % 2 = 1))) ∧ w = w' := by
  have H := andNot_bit j hj s hs
  generalize ((2 ^ j : Nat) : Int) = p at *
  generalize decide ((s : Int) / p % 2 = 1) = r at *
  obtain ⟨q, hq⟩ : ∃ q, bits .andNot .i64 p (s : Int) = q := ⟨_, rfl⟩
  rw [hq] at H
  go_enter Try.func48, Try.ntmps48
  go_wp2_with fail
  go_ret
  exact ⟨rfl, rfl⟩
/-- The text at a place, and the one ahead. -/
theorem text_at {w : World} {B n c : Nat} {b off : Nat} {t : List Int} (h : Reads w B 1 (some ⟨b, off, none⟩) n c (t.map (Value.int .i64))) {k : Nat} (hk : k < n) : w.cell? ⟨b, off + k, none⟩ = some (.int .i64 (t.getD k 0)) := by
  have hl : t.length = n := by have := h.len; simpa using this
  refine h.cellAt ?_
  rw [List.getElem?_map, List.getElem?_eq_getElem (by omega), List.getD_eq_getElem?_getD, List.getElem?_eq_getElem (by omega)]
  rfl
section
variable (A : Option Addr) (n c k : Nat) (t : List Int) (w : World)
set_option maxHeartbeats 1000000 in
theorem first_any : Calls Try.prog 81 #[.agg #[.slice A n c, .int .i64 (k : Int)]] w fun e w' => e = .returned (.bool (decide (k = 0))) ∧ Below w.heap.size w w' := by
  by_cases h : k = 0
  · subst h
    go_enter Try.func81, Try.ntmps81
    go_wp2_with fail
    go_ret
    exact ⟨rfl, (Below.refl _ _).alloc (Nat.le_refl _) _⟩
  · have h1 : ((k : Int) == 0) = false := by rw [beq_eq_false_iff_ne]; omega
    have hk : 0 < k := by omega
    go_enter Try.func81, Try.ntmps81
    go_wp2_with fail
    go_ret
    exact ⟨ret_bool (by simp [h]), (Below.refl _ _).alloc (Nat.le_refl _) _⟩
set_option maxHeartbeats 1000000 in
theorem last_any (hn : t.length = n) : Calls Try.prog 82 #[.agg #[.slice A n c, .int .i64 (k : Int)]] w fun e w' => e = .returned (.bool (decide (k = t.length))) ∧ Below w.heap.size w w' := by
  rw [hn]
  clear hn
  by_cases h : k = n
  · have h1 : ((k : Int) == (n : Int)) = true := by rw [beq_iff_eq]; omega
    have HH := Lib.hid h
    clear h
    go_enter Try.func82, Try.ntmps82
    go_wp2_with fail
    go_ret
    exact ⟨ret_bool (by simp [HH.out]), (Below.refl _ _).alloc (Nat.le_refl _) _⟩
  · have h1 : ((k : Int) == (n : Int)) = false := by rw [beq_eq_false_iff_ne]; omega
    go_enter Try.func82, Try.ntmps82
    go_wp2_with fail
    go_ret
    exact ⟨ret_bool (by simp [h]), (Below.refl _ _).alloc (Nat.le_refl _) _⟩
end
section
variable (A : Option Addr) (n c k : Nat) (t : List Int) (w : World)
set_option maxHeartbeats 1000000 in
theorem begin_any (hr : Reads w w.heap.size 1 A n c (t.map (Value.int .i64))) (hk : k ≤ n) : Calls Try.prog 83 #[.agg #[.slice A n c, .int .i64 (k : Int)]] w fun e w' => e = .returned (.bool (hb t k 2)) ∧ Below w.heap.size w w' := by
  have hb1 : Below w.heap.size w (w.alloc (.cells #[.slice A n c, .int .i64 (k : Int)] 119)) := (Below.refl _ _).alloc (Nat.le_refl _) _
  have hnc := hr.le
  have hcap := hr.cap
  have HF := Lib.hid (first_any A n c k (w.alloc (.cells #[.slice A n c, .int .i64 (k : Int)] 119)))
  have HR := Lib.hid hr
  have hx0 : (w.alloc (.cells #[.slice A n c, .int .i64 (k : Int)] 119)).cell? ⟨w.heap.size, 0, none⟩ = some (.slice A n c) := (Blk.new w _ [.slice A n c, .int .i64 (k : Int)]).cell 0
  have hx1 : (w.alloc (.cells #[.slice A n c, .int .i64 (k : Int)] 119)).cell? ⟨w.heap.size, 1, none⟩ = some (.int .i64 (k : Int)) := (Blk.new w _ [.slice A n c, .int .i64 (k : Int)]).cell 1
  have hsz : w.heap.size < (w.alloc (.cells #[.slice A n c, .int .i64 (k : Int)] 119)).heap.size := by simp
  have HX0 := Lib.hid hx0
  have HX1 := Lib.hid hx1
  have HSZ := Lib.hid hsz
  have HB1 := Lib.hid hb1
  clear hr hx0 hx1 hsz hb1
  by_cases h : k = 0
  · subst h
    go_enter Try.func83, Try.ntmps83
    go_wp2_with (go_at_call 81; refine HF.out.mono ?_; rintro e w1 ⟨rfl, hb2⟩)
    go_ret
    exact ⟨ret_bool (by simp [hb]), HB1.out.trans (hb2.mono (Nat.le_of_lt HSZ.out))⟩
  · obtain ⟨b, off, rfl, hbl, _⟩ := HR.out.at_ (by omega)
    have hct := text_at HR.out (k := k - 1) (by omega)
    have h1 : decide (k = 0) = false := decide_eq_false h
    have hj1 : ((k : Int) - 1).toNat = k - 1 := by omega
    have hj2 : 0 ≤ (k : Int) - 1 := by omega
    have hj3 : (k : Int) - 1 < n := by omega
    have hgd : hb t k 2 = (t.getD (k - 1) 0 == 10) := by simp [hb, h1]
    have HGD := Lib.hid hgd
    generalize t.getD (k - 1) 0 = z at *
    have HCT := Lib.hid hct
    clear hgd hct h
    go_enter Try.func83, Try.ntmps83
    go_wp2_with (go_at_call 81; refine HF.out.mono ?_; rintro e w1 ⟨rfl, hb2⟩; rw [h1]; have hy0 : w1.cell? ⟨w.heap.size, 0, none⟩ = some (.slice (some ⟨b, off, none⟩) n c) := (hb2.cell (p := ⟨w.heap.size, 0, none⟩) HSZ.out).trans HX0.out; have hy1 : w1.cell? ⟨w.heap.size, 1, none⟩ = some (.int .i64 (k : Int)) := (hb2.cell (p := ⟨w.heap.size, 1, none⟩) HSZ.out).trans HX1.out; have hy2 : w1.cell? ⟨b, off + (k - 1), none⟩ = some (.int .i64 z) := ((HB1.out.trans (hb2.mono (Nat.le_of_lt HSZ.out))).cell (p := ⟨b, off + (k - 1), none⟩) hbl).trans HCT.out)
    go_ret
    exact ⟨ret_bool HGD.out.symm, HB1.out.trans (hb2.mono (Nat.le_of_lt HSZ.out))⟩
set_option maxHeartbeats 1000000 in
theorem end_any (hr : Reads w w.heap.size 1 A n c (t.map (Value.int .i64))) (hk : k ≤ n) : Calls Try.prog 84 #[.agg #[.slice A n c, .int .i64 (k : Int)]] w fun e w' => e = .returned (.bool (hb t k 3)) ∧ Below w.heap.size w w' := by
  have hb1 : Below w.heap.size w (w.alloc (.cells #[.slice A n c, .int .i64 (k : Int)] 119)) := (Below.refl _ _).alloc (Nat.le_refl _) _
  have hnc := hr.le
  have hcap := hr.cap
  have hl : t.length = n := by have := hr.len; simpa using this
  have HF := Lib.hid (last_any A n c k t (w.alloc (.cells #[.slice A n c, .int .i64 (k : Int)] 119)) hl)
  have HR := Lib.hid hr
  have hx0 : (w.alloc (.cells #[.slice A n c, .int .i64 (k : Int)] 119)).cell? ⟨w.heap.size, 0, none⟩ = some (.slice A n c) := (Blk.new w _ [.slice A n c, .int .i64 (k : Int)]).cell 0
  have hx1 : (w.alloc (.cells #[.slice A n c, .int .i64 (k : Int)] 119)).cell? ⟨w.heap.size, 1, none⟩ = some (.int .i64 (k : Int)) := (Blk.new w _ [.slice A n c, .int .i64 (k : Int)]).cell 1
  have hsz : w.heap.size < (w.alloc (.cells #[.slice A n c, .int .i64 (k : Int)] 119)).heap.size := by simp
  have HX0 := Lib.hid hx0
  have HX1 := Lib.hid hx1
  have HSZ := Lib.hid hsz
  have HB1 := Lib.hid hb1
  have HL := Lib.hid hl
  clear hr hx0 hx1 hsz hb1 hl
  by_cases h : k = n
  · have h1 : decide (k = t.length) = true := decide_eq_true (by rw [HL.out]; exact h)
    have HH := Lib.hid (show hb t k 3 = true from by simp only [hb, h1, Bool.true_or])
    clear h
    go_enter Try.func84, Try.ntmps84
    go_wp2_with (go_at_call 82; refine HF.out.mono ?_; rintro e w1 ⟨rfl, hb2⟩; rw [h1])
    go_ret
    exact ⟨ret_bool HH.out.symm, HB1.out.trans (hb2.mono (Nat.le_of_lt HSZ.out))⟩
  · obtain ⟨b, off, rfl, hbl, _⟩ := HR.out.at_ (by omega)
    have hlt : k < n := by omega
    have hct := text_at HR.out hlt
    have h1 : decide (k = t.length) = false := decide_eq_false (by rw [HL.out]; exact h)
    have hgd : hb t k 3 = (t.getD k 0 == 10) := by simp [hb, h1]
    have HGD := Lib.hid hgd
    generalize t.getD k 0 = z at *
    have HCT := Lib.hid hct
    clear hgd hct h
    go_enter Try.func84, Try.ntmps84
    go_wp2_with (go_at_call 82; refine HF.out.mono ?_; rintro e w1 ⟨rfl, hb2⟩; rw [h1]; have hy0 : w1.cell? ⟨w.heap.size, 0, none⟩ = some (.slice (some ⟨b, off, none⟩) n c) := (hb2.cell (p := ⟨w.heap.size, 0, none⟩) HSZ.out).trans HX0.out; have hy1 : w1.cell? ⟨w.heap.size, 1, none⟩ = some (.int .i64 (k : Int)) := (hb2.cell (p := ⟨w.heap.size, 1, none⟩) HSZ.out).trans HX1.out; have hy2 : w1.cell? ⟨b, off + k, none⟩ = some (.int .i64 z) := ((HB1.out.trans (hb2.mono (Nat.le_of_lt HSZ.out))).cell (p := ⟨b, off + k, none⟩) hbl).trans HCT.out)
    go_ret
    exact ⟨ret_bool HGD.out.symm, HB1.out.trans (hb2.mono (Nat.le_of_lt HSZ.out))⟩
end
end Go.Proofs.Yteimpcjafgllpaa
namespace Go.Proofs.Yteimpcjafgllpaa
open Go.RowKit
/-- Blocks from B on, that are there, but those of L. -/
def Fr (B : Nat) (L : List Nat) (w : World) : Nat → Prop := fun b => B ≤ b ∧ b < w.heap.size ∧ b ∉ L
section
variable {w w' : World} {B B' : Nat} {L L' M : List Nat} {t : Ta} {S : Nat → Prop}
theorem RT.fr_kept (h : RT w (Fr B L w) t) (k : Kept w w' M) (hM : ∀ b ∈ M, b ∈ L ∨ w.heap.size ≤ b ∨ b < B) (hL : ∀ b ∈ L', b ∈ L ∨ w.heap.size ≤ b ∨ b < B) : RT w' (Fr B L' w') t := by
  refine (h.go fun b hb => k.block b hb.2.1 fun hm => ?_).mono fun b hb => ⟨hb.1, Nat.lt_of_lt_of_le hb.2.1 k.size, fun hm => ?_⟩
  · rcases hM b hm with e | e | e
    · exact hb.2.2 e
    · have := hb.2.1; omega
    · have := hb.1; omega
  · rcases hL b hm with e | e | e
    · exact hb.2.2 e
    · have := hb.2.1; omega
    · have := hb.1; omega
theorem RT.fr_below (h : RT w (Fr B L w) t) (k : Below w.heap.size w w') : RT w' (Fr B L w') t :=
  h.fr_kept (Kept.of_below (L := []) k) (by simp) (fun b hb => .inl hb)
/-- What lies from the later B' on lies from B on, and in no block of L that was there then. -/
theorem RT.fr_in (h : RT w (Fr B' [] w) t) (hB : B ≤ B') (hL : ∀ b ∈ L, b < B') : RT w (Fr B L w) t :=
  h.mono fun b hb => ⟨Nat.le_trans hB hb.1, hb.2.1, fun hm => by have := hL b hm; have := hb.1; omega⟩
theorem RT.fr_less (h : RT w (Fr B L w) t) (hL : ∀ b ∈ L', b ∈ L) : RT w (Fr B L' w) t :=
  h.mono fun b hb => ⟨hb.1, hb.2.1, fun hm => hb.2.2 (hL b hm)⟩
theorem RT.fr_low (h : RT w (Fr B L w) t) (hB : B' ≤ B) : RT w (Fr B' L w) t :=
  h.mono fun b hb => ⟨Nat.le_trans hB hb.1, hb.2.1, hb.2.2⟩
theorem Fr.lt {b : Nat} (h : Fr B L w b) : b < w.heap.size := h.2.1
theorem RdA.fr_kept {size n c : Nat} {A : Option Addr} {xs : List Value} (h : RdA w (Fr B L w) size A n c xs) (k : Kept w w' M) (hM : ∀ b ∈ M, b ∈ L ∨ w.heap.size ≤ b ∨ b < B) (hL : ∀ b ∈ L', b ∈ L ∨ w.heap.size ≤ b ∨ b < B) : RdA w' (Fr B L' w') size A n c xs := by
  refine (h.go fun b hb => k.block b hb.2.1 fun hm => ?_).mono fun b hb => ⟨hb.1, Nat.lt_of_lt_of_le hb.2.1 k.size, fun hm => ?_⟩
  · rcases hM b hm with e | e | e
    · exact hb.2.2 e
    · have := hb.2.1; omega
    · have := hb.1; omega
  · rcases hL b hm with e | e | e
    · exact hb.2.2 e
    · have := hb.2.1; omega
    · have := hb.1; omega
theorem RdA.fr_below {size n c : Nat} {A : Option Addr} {xs : List Value} (h : RdA w (Fr B L w) size A n c xs) (k : Below w.heap.size w w') : RdA w' (Fr B L w') size A n c xs :=
  h.fr_kept (Kept.of_below (L := []) k) (by simp) (fun b hb => .inl hb)
theorem RdA.fr_less {size n c : Nat} {A : Option Addr} {xs : List Value} (h : RdA w (Fr B L w) size A n c xs) (hL : ∀ b ∈ L', b ∈ L) : RdA w (Fr B L' w) size A n c xs :=
  h.mono fun b hb => ⟨hb.1, hb.2.1, fun hm => hb.2.2 (hL b hm)⟩
theorem RdA.fr_in {size n c : Nat} {A : Option Addr} {xs : List Value} (h : RdA w (Fr B' [] w) size A n c xs) (hB : B ≤ B') (hL : ∀ b ∈ L, b < B') : RdA w (Fr B L w) size A n c xs :=
  h.mono fun b hb => ⟨Nat.le_trans hB hb.1, hb.2.1, fun hm => by have := hL b hm; have := hb.1; omega⟩
/-- An own row reads. -/
theorem RdA.of_own {base : Nat} {e : TypeId} {size n : Nat} {v : Value} {xs : List Value} (h : w.ownsRow base e size v n xs) (hn : ∀ b, v.ownBlock = some b → b ∉ L) : ∃ A c, v = .slice A n c ∧ RdA w (Fr base L w) size A n c xs := by
  rcases h.2 with ⟨rfl, rfl⟩ | ⟨g, cap, cur, rfl, hg, hh, hnc, hm, hsz, ht⟩
  · refine ⟨none, 0, rfl, Nat.le_refl _, by omega, h.1, fun _ => rfl, fun h => absurd h (by omega)⟩
  · refine ⟨some ⟨g, 0, none⟩, cap, rfl, hnc, by unfold maxLen at hm; omega, h.1, (fun h => by cases h), fun _ => ⟨g, 0, rfl, ⟨hg, (Array.getElem?_eq_some_iff.1 hh).1, hn g rfl⟩, fun j u hu => ?_⟩⟩
    rw [Nat.zero_add, cell_of_row w g j cur e (0, 0) hh]
    rw [← ht, List.getElem?_take] at hu
    split at hu
    · simpa using hu
    · cases hu
/-- An own row is a block. -/
theorem Blk.of_own {base : Nat} {e : TypeId} {size n : Nat} {v : Value} {xs : List Value} (h : w.ownsRow base e size v n xs) (hn : 0 < n) : ∃ g c zs, v = .slice (some ⟨g, 0, none⟩) n c ∧ Blk w g e (xs ++ zs) ∧ base ≤ g ∧ n ≤ c ∧ c ≤ 9223372036854775807 := by
  rcases h.2 with ⟨_, h0⟩ | ⟨g, cap, cur, rfl, hg, hh, hnc, hm, hsz, ht⟩
  · omega
  · refine ⟨g, cap, cur.toList.drop (n * size), rfl, ?_, hg, hnc, by unfold maxLen at hm; omega⟩
    unfold Blk
    rw [← ht, List.take_append_drop, Array.toArray_toList]
    exact hh
theorem own_parts {base : Nat} {e : TypeId} {size n : Nat} {v : Value} {xs : List Value} (h : w.ownsRow base e size v n xs) : ∃ A c g zs, v = .slice A n c ∧ n ≤ c ∧ c ≤ 9223372036854775807 ∧ (A = none → c = 0) ∧ base ≤ g ∧ (0 < n → A = some ⟨g, 0, none⟩ ∧ Blk w g e (xs ++ zs)) := by
  rcases Nat.eq_zero_or_pos n with h0 | h0
  · obtain ⟨A, c, rfl, hr⟩ := RdA.of_own (L := []) h (by simp)
    exact ⟨A, c, base, [], rfl, hr.1, hr.2.1, hr.2.2.2.1, Nat.le_refl _, fun h => absurd h (by omega)⟩
  · obtain ⟨g, c, zs, rfl, hb, hg, hn, hc⟩ := Blk.of_own h h0
    exact ⟨_, c, g, zs, rfl, hn, hc, (fun h => by cases h), hg, fun _ => ⟨rfl, hb⟩⟩
theorem set_next {us l : List Ta} {i : Nat} {u : Ta} (hl : us.length = i) (hi : i < l.length) : (us ++ l.drop i).set i u = (us ++ [u]) ++ l.drop (i + 1) := by
  rw [List.set_append_right _ _ (by omega), hl, Nat.sub_self, List.append_assoc, List.drop_eq_getElem_cons hi]
  rfl
theorem get_next {us l : List Ta} {i : Nat} {u : Ta} (hl : us.length = i) (hu : l[i]? = some u) : (us ++ l.drop i)[i]? = some u := by
  rw [List.getElem?_append_right (by omega), hl, Nat.sub_self, List.getElem?_drop]
  simpa using hu
theorem Ta.one (t : Ta) : ∀ u ∈ t.vals, u.oneCell' = true := by
  cases t with
  | mk k r ra rc ast l sa sc mn mx z ix nm =>
    intro u hu
    simp only [Ta.vals, List.mem_cons, List.not_mem_nil, or_false] at hu
    rcases hu with rfl | rfl | rfl | rfl | rfl | rfl | rfl | rfl | rfl <;> rfl
theorem rowT_one (l : List Ta) : ∀ u ∈ rowT l, u.oneCell' = true := by
  intro u hu
  unfold rowT at hu
  obtain ⟨t, _, ht⟩ := List.mem_flatMap.1 hu
  exact t.one u ht
/-- Nine cells of a row of nodes are written. -/
theorem rowT_set {l : List Ta} {i : Nat} (hi : i < l.length) (zs : List Value) (k : Value) (r a s n m z x nm : Value) (u : Ta) (hu : u.vals = [k, r, a, s, n, m, z, x, nm]) :
    (((((((((rowT l ++ zs).set (i * 9) k).set (i * 9 + 1) r).set (i * 9 + 2) a).set (i * 9 + 3) s).set (i * 9 + 4) n).set (i * 9 + 5) m).set (i * 9 + 6) z).set (i * 9 + 7) x).set (i * 9 + 8) nm = rowT (l.set i u) ++ zs := by
  have hlen := rowT_length l
  have hlen2 := rowT_length (l.set i u)
  rw [List.length_set] at hlen2
  refine List.ext_getElem? fun j => ?_
  have hgo : ∀ q, q < 9 → (rowT (l.set i u))[i * 9 + q]? = u.vals[q]? := fun q hq => rowT_get _ _ _ _ (by rw [List.getElem?_set_self hi]) hq
  have hfar : ∀ j, j < l.length * 9 → (j < i * 9 ∨ i * 9 + 9 ≤ j) → (rowT (l.set i u))[j]? = (rowT l)[j]? := by
    intro j hj hor
    have hq : j / 9 < l.length := by omega
    have e : j = j / 9 * 9 + j % 9 := by omega
    have hne : i ≠ j / 9 := by omega
    rw [e]
    rw [rowT_get l (j / 9) (j % 9) _ (List.getElem?_eq_getElem hq) (by omega)]
    exact rowT_get _ _ _ _ (by rw [List.getElem?_set_ne hne, List.getElem?_eq_getElem hq]) (by omega)
  by_cases hj : j < l.length * 9
  · have hap : (rowT (l.set i u) ++ zs)[j]? = (rowT (l.set i u))[j]? := List.getElem?_append_left (by rw [hlen2]; exact hj)
    rw [hap]
    by_cases hor : j < i * 9 ∨ i * 9 + 9 ≤ j
    · rw [hfar j hj hor]
      rw [List.getElem?_set_ne (by omega), List.getElem?_set_ne (by omega), List.getElem?_set_ne (by omega), List.getElem?_set_ne (by omega), List.getElem?_set_ne (by omega), List.getElem?_set_ne (by omega), List.getElem?_set_ne (by omega), List.getElem?_set_ne (by omega), List.getElem?_set_ne (by omega)]
      rw [List.getElem?_append_left (by rw [hlen]; exact hj)]
    · obtain ⟨q, hq, rfl⟩ : ∃ q, q < 9 ∧ j = i * 9 + q := ⟨j - i * 9, by omega, by omega⟩
      rw [hgo q hq, hu]
      have hl9 : ∀ q', q' < 9 → i * 9 + q' < (rowT l ++ zs).length := fun q' hq' => by rw [List.length_append, hlen]; omega
      have h00 := hl9 0 (by omega)
      rw [Nat.add_zero] at h00
      rcases (show q = 0 ∨ q = 1 ∨ q = 2 ∨ q = 3 ∨ q = 4 ∨ q = 5 ∨ q = 6 ∨ q = 7 ∨ q = 8 from by omega) with rfl | rfl | rfl | rfl | rfl | rfl | rfl | rfl | rfl
      all_goals simp [List.getElem?_set]
      all_goals (rw [hlen]; omega)
  · rw [List.getElem?_set_ne (by omega), List.getElem?_set_ne (by omega), List.getElem?_set_ne (by omega), List.getElem?_set_ne (by omega), List.getElem?_set_ne (by omega), List.getElem?_set_ne (by omega), List.getElem?_set_ne (by omega), List.getElem?_set_ne (by omega), List.getElem?_set_ne (by omega)]
    rw [List.getElem?_append_right (by rw [hlen]; omega), List.getElem?_append_right (by rw [hlen2]; omega), hlen, hlen2]
/-- .. in memory. -/
theorem Blk.set9 {g : Nat} {ty : TypeId} {l : List Ta} {zs : List Value} {i : Nat} (h : Blk w g ty (rowT l ++ zs)) (hi : i < l.length) {k r a s n m z x nm : Value} {u : Ta} (hu : u.vals = [k, r, a, s, n, m, z, x, nm]) :
    Blk (((((((((w.setCell ⟨g, i * 9, none⟩ k).setCell ⟨g, i * 9 + 1, none⟩ r).setCell ⟨g, i * 9 + 2, none⟩ a).setCell ⟨g, i * 9 + 3, none⟩ s).setCell ⟨g, i * 9 + 4, none⟩ n).setCell ⟨g, i * 9 + 5, none⟩ m).setCell ⟨g, i * 9 + 6, none⟩ z).setCell ⟨g, i * 9 + 7, none⟩ x).setCell ⟨g, i * 9 + 8, none⟩ nm) g ty (rowT (l.set i u) ++ zs) := by
  rw [← rowT_set hi zs k r a s n m z x nm u hu]
  exact ((((((((h.set_ (i * 9) k).set_ (i * 9 + 1) r).set_ (i * 9 + 2) a).set_ (i * 9 + 3) s).set_ (i * 9 + 4) n).set_ (i * 9 + 5) m).set_ (i * 9 + 6) z).set_ (i * 9 + 7) x).set_ (i * 9 + 8) nm
theorem kept9 (w : World) (g i : Nat) (k r a s n m z x nm : Value) :
    Kept w (((((((((w.setCell ⟨g, i, none⟩ k).setCell ⟨g, i + 1, none⟩ r).setCell ⟨g, i + 2, none⟩ a).setCell ⟨g, i + 3, none⟩ s).setCell ⟨g, i + 4, none⟩ n).setCell ⟨g, i + 5, none⟩ m).setCell ⟨g, i + 6, none⟩ z).setCell ⟨g, i + 7, none⟩ x).setCell ⟨g, i + 8, none⟩ nm) [g] :=
  (((((((((Kept.setCell ⟨g, i, none⟩ k).trans (Kept.setCell ⟨g, i + 1, none⟩ r)).trans (Kept.setCell ⟨g, i + 2, none⟩ a)).trans (Kept.setCell ⟨g, i + 3, none⟩ s)).trans (Kept.setCell ⟨g, i + 4, none⟩ n)).trans (Kept.setCell ⟨g, i + 5, none⟩ m)).trans (Kept.setCell ⟨g, i + 6, none⟩ z)).trans (Kept.setCell ⟨g, i + 7, none⟩ x)).trans (Kept.setCell ⟨g, i + 8, none⟩ nm)).more (by intro b hb; simp at hb; exact .inl (by simp [hb]))
end
end Go.Proofs.Yteimpcjafgllpaa
namespace Go.Proofs.Yteimpcjafgllpaa
open Go.RowKit
theorem enters0 {P : Program} {f : FuncId} {fn : Func} (h : P.funcs[f]? = some fn) (h1 : (fn.name == "runtime.NumGoroutine") = false) (h2 : fn.body.isNone = false) : ∀ args u, (callFunc f args).run P u = .ok (.enter f args) u := by
  intro args u
  unfold callFunc
  have h1' : ¬ (fn.name = "runtime.NumGoroutine") := by simpa using h1
  have h2' : ¬ (fn.body = none) := by intro e; rw [e] at h2; cases h2
  simp [go_sem, h, h1', h2']
/-- A call of a Go function, as a step of a region that draws its order. -/
theorem step_call {P : Program} {ops : Array Oper} {o : Oper} {a : Act} {w : World} {K : Act → World → Prop} {Q : Exit → Act → World → Prop} {E : Prop} (hgd : o.guard = none) (f : FuncId) (x : Operand) (t : TypeId)
    (ho : o.op = .call { callee := .value (.func f), args := #[x], argTypes := #[t] }) (v : Value) (hx : a.eval x = v) (he : ∀ args u, (callFunc f args).run P u = .ok (.enter f args) u)
    (h : Calls P f #[v] w fun e w' => ∃ r, e = .returned r ∧ K (a.put o.dst r) w') : if Region.wanted o (yielded ops a.tmps) = true then Oper.wp P o a w K Q else E := by
  have hw : Region.wanted o (yielded ops a.tmps) = true := by simp [Region.wanted, hgd]
  rw [if_pos hw]
  unfold Oper.wp
  have hrun : (execOp a.eval o).run P w = .ok (.enter f #[v]) w := by
    obtain ⟨dst, op, type, pos, after, guard⟩ := o
    simp only [] at ho
    subst ho
    show (callFunc f (#[] ++ (#[x] : Array Operand).map a.eval ++ #[])).run P w = _
    rw [he, ← hx]
    simp
  rw [hrun, Oper.upon_enter]
  refine h.mono ?_
  rintro e w' ⟨r, rfl, hk⟩
  exact hk
/-- The same of a function value. -/
theorem step_callv {P : Program} {ops : Array Oper} {o : Oper} {a : Act} {w : World} {K : Act → World → Prop} {Q : Exit → Act → World → Prop} {E : Prop} (hgd : o.guard = none) (f : FuncId) (y : Operand) (xs : Array Operand) (ts : Array TypeId) (caps : Array Value)
    (ho : o.op = .call { callee := .value y, args := xs, argTypes := ts }) (hy : a.eval y = .func (Fn.func f) #[] caps) (vs : Array Value) (hx : xs.map a.eval = vs) (he : ∀ args u, (callFunc f args).run P u = .ok (.enter f args) u)
    (h : Calls P f (vs ++ caps) w fun e w' => ∃ r, e = .returned r ∧ K (a.put o.dst r) w') : if Region.wanted o (yielded ops a.tmps) = true then Oper.wp P o a w K Q else E := by
  have hw : Region.wanted o (yielded ops a.tmps) = true := by simp [Region.wanted, hgd]
  rw [if_pos hw]
  unfold Oper.wp
  have hrun : (execOp a.eval o).run P w = .ok (.enter f (vs ++ caps)) w := by
    obtain ⟨dst, op, type, pos, after, guard⟩ := o
    simp only [] at ho
    subst ho
    simp only [execOp, resolve, hy, Sem.run_bind, hx]
    show (callFunc f (#[] ++ vs ++ caps)).run P w = _
    rw [he]
    simp
  rw [hrun, Oper.upon_enter]
  refine h.mono ?_
  rintro e w' ⟨r, rfl, hk⟩
  exact hk
/-- The form of an unfolded tree, its blocks apart. -/
inductive Us where
  | mk (kind : Int) (rng : List (Int × Int)) (ast ix : Int) (lz : Bool) (subs : List Us)
mutual
def shU : Mean.Un → Us
  | .mk _ k r b i z l => .mk k r b i z (shUs l)
def shUs : List Mean.Un → List Us
  | [] => []
  | u :: l => shU u :: shUs l
end
theorem shUs_map : ∀ l : List Mean.Un, shUs l = l.map shU
  | [] => rfl
  | u :: l => by rw [shUs, shUs_map l]; rfl
/-- x, so often; at the end maybe a loop of it. -/
def emptyU : Us := .mk 1 [] 0 0 false []
def loopU (k : Int) (z : Bool) (x : Us) : Us := .mk k [] 0 0 z [x]
def catU (l : List Us) : Us := .mk 4 [] 0 0 false l
/-- x? and x(x?)? .. -/
def optU (z : Bool) (x : Us) : Nat → Us
  | 0 => loopU (-1) z x
  | n + 1 => loopU (-1) z (catU [x, optU z x n])
def repU (x : Us) (n m : Int) (z : Bool) : Us :=
  if m = -1 then (if n = 0 then loopU (-2) z x else catU (List.replicate (n - 1).toNat x ++ [loopU (-3) z x]))
  else if n.toNat = 0 ∧ ¬ n < m then emptyU else catU (List.replicate n.toNat x ++ (if n < m then [optU z x (m - n - 1).toNat] else []))
mutual
def unfS : Tr.Tr → Us
  | .mk k r a l n m z i _ => if k ≠ 6 then .mk k r a i false (unfSs l) else repU ((unfSs l).headD emptyU) n m z
def unfSs : List Tr.Tr → List Us
  | [] => []
  | t :: l => unfS t :: unfSs l
end
theorem unfSs_map : ∀ l : List Tr.Tr, unfSs l = l.map unfS
  | [] => rfl
  | t :: l => by rw [unfSs, unfSs_map l]; rfl
/-- Pointers to nodes. -/
def uptrs (l : List Mean.Un) : List Value := l.map fun s => .pointer (some ⟨s.ad, 0, none⟩)
/-- A node in memory: its block, its ranges in S, its row in T. -/
structure UN (w : World) (S T : Nat → Prop) (n : Mean.Un) (ra : Option Addr) (rc : Nat) (sa : Option Addr) (sc : Nat) : Prop where
  ad : T n.ad
  blk : Blk w n.ad 88 [.int .i64 n.kind, .slice ra n.rng.length rc, .int .i64 n.ast, .int .i64 n.ix, .bool n.lz, .slice sa n.subs.length sc]
  rng : RdA w S 2 ra n.rng.length rc (flat n.rng)
  subs : RdA w T 1 sa n.subs.length sc (uptrs n.subs)
/-- An unfolded tree in memory, each node in a block of its own. -/
structure UT (w : World) (S T : Nat → Prop) (u : Mean.Un) : Prop where
  nodes : ∀ n ∈ u.all, ∃ ra rc sa sc, UN w S T n ra rc sa sc
  nodup : (u.all.map Mean.Un.ad).Nodup
section
variable {w w' : World} {S S' T T' : Nat → Prop} {n u : Mean.Un} {ra sa : Option Addr} {rc sc : Nat}
theorem UN.go (h : UN w S T n ra rc sa sc) (hS : ∀ b, S b → w'.heap[b]? = w.heap[b]?) (hT : ∀ b, T b → w'.heap[b]? = w.heap[b]?) : UN w' S T n ra rc sa sc :=
  ⟨h.ad, (hT _ h.ad).trans h.blk, h.rng.go hS, h.subs.go hT⟩
theorem UN.mono (h : UN w S T n ra rc sa sc) (hS : ∀ b, S b → S' b) (hT : ∀ b, T b → T' b) : UN w S' T' n ra rc sa sc :=
  ⟨hT _ h.ad, h.blk, h.rng.mono hS, h.subs.mono hT⟩
theorem UT.go (h : UT w S T u) (hS : ∀ b, S b → w'.heap[b]? = w.heap[b]?) (hT : ∀ b, T b → w'.heap[b]? = w.heap[b]?) : UT w' S T u :=
  ⟨fun n hn => by obtain ⟨ra, rc, sa, sc, hd⟩ := h.nodes n hn; exact ⟨ra, rc, sa, sc, hd.go hS hT⟩, h.nodup⟩
theorem UT.mono (h : UT w S T u) (hS : ∀ b, S b → S' b) (hT : ∀ b, T b → T' b) : UT w S' T' u :=
  ⟨fun n hn => by obtain ⟨ra, rc, sa, sc, hd⟩ := h.nodes n hn; exact ⟨ra, rc, sa, sc, hd.mono hS hT⟩, h.nodup⟩
theorem UT.mem (h : UT w S T u) {b : Nat} (hb : b ∈ u.all.map Mean.Un.ad) : T b := by
  obtain ⟨n, hn, rfl⟩ := List.mem_map.1 hb
  obtain ⟨ra, rc, sa, sc, hd⟩ := h.nodes n hn
  exact hd.ad
end
section
variable {w w' : World} {B B' : Nat} {L L' M : List Nat} {u : Mean.Un} {S : Nat → Prop}
/-- Writes to M: what does not read there stays. -/
theorem UT.kept (h : UT w S (Fr B L w) u) (hS : ∀ b, S b → w'.heap[b]? = w.heap[b]?) (k : Kept w w' M) (hM : ∀ b ∈ M, b ∈ L ∨ w.heap.size ≤ b ∨ b < B) (hL : ∀ b ∈ L', b ∈ L ∨ w.heap.size ≤ b ∨ b < B) : UT w' S (Fr B L' w') u := by
  refine (h.go hS fun b hb => k.block b hb.2.1 fun hm => ?_).mono (fun b hb => hb) fun b hb => ⟨hb.1, Nat.lt_of_lt_of_le hb.2.1 k.size, fun hm => ?_⟩
  · rcases hM b hm with e | e | e
    · exact hb.2.2 e
    · have := hb.2.1; omega
    · have := hb.1; omega
  · rcases hL b hm with e | e | e
    · exact hb.2.2 e
    · have := hb.2.1; omega
    · have := hb.1; omega
theorem UT.below (h : UT w S (Fr B L w) u) (hS : ∀ b, S b → b < w.heap.size) (k : Below w.heap.size w w') : UT w' S (Fr B L w') u :=
  h.kept (fun b hb => k.block b (hS b hb)) (Kept.of_below (L := []) k) (by simp) (fun b hb => .inl hb)
theorem UT.in_ (h : UT w S (Fr B' [] w) u) (hB : B ≤ B') (hL : ∀ b ∈ L, b < B') : UT w S (Fr B L w) u :=
  h.mono (fun b hb => hb) fun b hb => ⟨Nat.le_trans hB hb.1, hb.2.1, fun hm => by have := hL b hm; have := hb.1; omega⟩
end
/-- A node whose row grows. -/
structure RowU (w : World) (S : Nat → Prop) (B nb : Nat) (hd : List Value) (v : Value) (us : List Mean.Un) : Prop where
  blk : Blk w nb 88 (hd ++ [v])
  own : w.ownsRow B 53 1 v us.length (uptrs us)
  els : ∀ u ∈ us, UT w S (Fr B (nb :: v.ownBlock.toList) w) u
  nodup : ((us.flatMap Mean.Un.all).map Mean.Un.ad).Nodup
  base : B ≤ w.heap.size
  sub : ∀ b, S b → b < B ∧ b ≠ nb
section
variable {w w' : World} {S : Nat → Prop} {B nb : Nat} {hd : List Value} {v : Value} {us : List Mean.Un}
theorem RowU.sep (h : RowU w S B nb hd v us) : some nb ≠ v.ownBlock := blk_apart h.own h.blk (by decide)
theorem RowU.later (h : RowU w S B nb hd v us) (hb : Below w.heap.size w w') : RowU w' S B nb hd v us :=
  ⟨h.blk.below hb h.blk.lt, own_below h.own hb, fun u hu => (h.els u hu).below (fun b hb' => Nat.lt_of_lt_of_le (h.sub b hb').1 h.base) hb, h.nodup, Nat.le_trans h.base hb.size, h.sub⟩
theorem RowU.lt (h : RowU w S B nb hd v us) {b : Nat} (hb : b ∈ (us.flatMap Mean.Un.all).map Mean.Un.ad) : b < w.heap.size ∧ b ≠ nb := by
  obtain ⟨n, hn, rfl⟩ := List.mem_map.1 hb
  obtain ⟨u, hu, hn⟩ := List.mem_flatMap.1 hn
  have := (h.els u hu).mem (List.mem_map.2 ⟨n, hn, rfl⟩)
  exact ⟨this.2.1, fun e => this.2.2 (by simp [e])⟩
theorem RowU.mut_ge (h : RowU w S B nb hd v us) {B0 : Nat} (h0 : B0 ≤ B) (h1 : B0 ≤ nb) : ∀ b ∈ nb :: v.ownBlock.toList, B0 ≤ b := fun b hb => by
  rcases List.mem_cons.1 hb with e | e
  · rw [e]; exact h1
  · rcases h.own.2 with ⟨rfl, _⟩ | ⟨g, cap, cur, rfl, hg, _⟩
    · simp [Value.ownBlock] at e
    · obtain rfl : b = g := by simpa [Value.ownBlock] using e
      omega
theorem RowU.own_ge (h : RowU w S B nb hd v us) : ∀ b ∈ v.ownBlock.toList, B ≤ b := fun b e => by
  rcases h.own.2 with ⟨rfl, _⟩ | ⟨g, cap, cur, rfl, hg, _⟩
  · simp [Value.ownBlock] at e
  · obtain rfl : b = g := by simpa [Value.ownBlock] using e
    exact hg
/-- One node more. w1: it is there; w2: its pointer, in a row of its own; w3: appended; the field. -/
theorem RowU.put {w1 w2 w3 : World} {u : Mean.Un} {v' : Value} {f5 : hd.length = 5} (h : RowU w S B nb hd v us) (hu : UT w1 S (Fr w.heap.size [] w1) u) (hb1 : Below w.heap.size w w1)
    (hb2 : Below w1.heap.size w1 w2) (ha : Appended B 53 1 v v' us.length 1 (uptrs us) (uptrs [u]) w2 w3) :
    RowU (w3.setCell ⟨nb, 5, none⟩ v') S B nb hd v' (us ++ [u]) ∧ Kept w (w3.setCell ⟨nb, 5, none⟩ v') (nb :: v.ownBlock.toList) ∧ w.heap.size ≤ (w3.setCell ⟨nb, 5, none⟩ v').heap.size := by
  have h2 := h.later (hb1.trans (hb2.mono hb1.size))
  have hu2 : UT w2 S (Fr w.heap.size [] w2) u := hu.below (fun b hb => Nat.lt_of_lt_of_le (Nat.lt_of_lt_of_le (h.sub b hb).1 h.base) hb1.size) hb2
  have hs2 : w.heap.size ≤ w2.heap.size := Nat.le_trans hb1.size hb2.size
  have hbv : ∀ b, v.ownBlock = some b → b < w.heap.size ∧ B ≤ b := fun b hb => by
    rcases h.own.2 with ⟨rfl, _⟩ | ⟨g, cap, cur, rfl, hg, hh, _⟩
    · simp [Value.ownBlock] at hb
    · obtain rfl : g = b := by simpa [Value.ownBlock] using hb
      exact ⟨(Array.getElem?_eq_some_iff.1 hh).1, hg⟩
  have k3 : Kept w2 w3 v.ownBlock.toList := Kept.of_grown' ha.grown
  have k4 : Kept w2 (w3.setCell ⟨nb, 5, none⟩ v') (nb :: v.ownBlock.toList) := (k3.trans (Kept.setCell ⟨nb, 5, none⟩ v')).more fun k hk => by
    simp only [List.mem_append, List.mem_singleton] at hk
    rcases hk with hk | rfl
    · exact .inl (List.mem_cons_of_mem _ hk)
    · exact .inl List.mem_cons_self
  have hnb3 : Blk w3 nb 88 (hd ++ [v]) := h2.blk.grown ha.grown h2.sep
  have hnb4 : Blk (w3.setCell ⟨nb, 5, none⟩ v') nb 88 (hd ++ [v']) := by
    have := hnb3.set_ 5 v'
    rwa [show (hd ++ [v]).set 5 v' = hd ++ [v'] from by rw [List.set_append_right _ _ (by omega), f5]; rfl] at this
  have hap : ∀ b, v'.ownBlock = some b → b ≠ nb := fun b hb e => blk_apart ha.own hnb3 (by decide) (by rw [hb, e])
  have hS : ∀ b, S b → (w3.setCell ⟨nb, 5, none⟩ v').heap[b]? = w2.heap[b]? := fun b hb => k4.block b (Nat.lt_of_lt_of_le (Nat.lt_of_lt_of_le (h.sub b hb).1 h.base) hs2) fun hm => by
    have := h.sub b hb
    rcases List.mem_cons.1 hm with e | e
    · exact this.2 e
    · have := hbv b (by simpa using e); omega
  have hL : ∀ b ∈ nb :: v'.ownBlock.toList, b ∈ nb :: v.ownBlock.toList ∨ w2.heap.size ≤ b ∨ b < B := fun b hb => by
    rcases List.mem_cons.1 hb with e | e
    · exact .inl (by simp [e])
    · rcases ha.at_ with e2 | e2
      · rw [e2] at e; exact .inl (List.mem_cons_of_mem _ e)
      · rw [e2] at e
        simp only [Option.toList_some, List.mem_singleton] at e
        exact .inr (.inl (by omega))
  refine ⟨⟨hnb4, ?_, fun x hx => ?_, ?_, Nat.le_trans h2.base k4.size, h.sub⟩, ?_, Nat.le_trans hs2 k4.size⟩
  · have := own_kept ha.own (Kept.setCell (w := w3) ⟨nb, 5, none⟩ v') fun b hb hm => hap b hb (by simpa using hm)
    rwa [show uptrs us ++ uptrs [u] = uptrs (us ++ [u]) from by simp [uptrs], show us.length + 1 = (us ++ [u]).length from by simp] at this
  · rcases List.mem_append.1 hx with hx | hx
    · exact (h2.els x hx).kept hS k4 (fun b hb => .inl hb) hL
    · simp only [List.mem_singleton] at hx
      subst hx
      have hin : UT w2 S (Fr B (nb :: v.ownBlock.toList) w2) x := hu2.in_ h.base fun b hb => by
        rcases List.mem_cons.1 hb with e | e
        · rw [e]; exact h.blk.lt
        · exact (hbv b (by simpa using e)).1
      exact hin.kept hS k4 (fun b hb => .inl hb) hL
  · rw [List.flatMap_append, List.map_append]
    refine List.nodup_append.2 ⟨h.nodup, by simpa using hu.nodup, fun a ha' b hb e => ?_⟩
    have h3 := (h.lt ha').1
    have h4 := hu.mem (b := b) (by simpa using hb)
    have := h4.1
    omega
  · refine (((Kept.of_below (L := []) (hb1.trans (hb2.mono hb1.size)))).trans k4).more fun k hk => ?_
    exact .inl (by simpa using hk)
/-- The row, done: a node. -/
theorem RowU.done {k : Int} {r : List (Int × Int)} {ra : Option Addr} {rc : Nat} {a i : Int} {z : Bool} {A : Option Addr} {c : Nat} (h : RowU w S B nb [.int .i64 k, .slice ra r.length rc, .int .i64 a, .int .i64 i, .bool z] (.slice A us.length c) us) (hr : RdA w S 2 ra r.length rc (flat r)) {B0 : Nat} (h0 : B0 ≤ B) (h1 : B0 ≤ nb) :
    UT w S (Fr B0 [] w) (.mk nb k r a i z us) := by
  refine ⟨fun n hn => ?_, ?_⟩
  · rw [Mean.all_subs] at hn
    rcases List.mem_cons.1 hn with rfl | hn
    · refine ⟨ra, rc, A, c, ⟨h1, h.blk.lt, by simp⟩, h.blk, hr, ?_⟩
      have ho := h.own
      have hre := Reads.of_own ho
      refine ⟨hre.le, hre.cap, hre.len, fun e => ?_, fun hn => ?_⟩
      · subst e
        rcases ho.2 with ⟨h1, _⟩ | ⟨g, cap, cur, h1, _⟩
        · exact (show us = [] ∧ c = 0 by simpa using h1).2
        · cases h1
      · obtain ⟨g, rfl, -, hg1, hg2⟩ := own_form ho hn
        exact ⟨g, 0, rfl, ⟨Nat.le_trans h0 hg1, hg2, by simp⟩, fun j x hx => hre.cellAt hx⟩
    · rw [Mean.allU_flat] at hn
      obtain ⟨u, hu, hn⟩ := List.mem_flatMap.1 hn
      obtain ⟨ra', rc', sa', sc', hd'⟩ := (h.els u hu).nodes n hn
      exact ⟨ra', rc', sa', sc', hd'.mono (fun b hb => hb) fun b hb => ⟨Nat.le_trans h0 hb.1, hb.2.1, by simp⟩⟩
  · rw [Mean.all_subs, Mean.allU_flat, List.map_cons]
    exact List.nodup_cons.2 ⟨fun hm => (h.lt hm).2 rfl, h.nodup⟩
end
end Go.Proofs.Yteimpcjafgllpaa
namespace Go.Proofs.Yteimpcjafgllpaa
open Go.RowKit Go.Proofs.Yteimpcjafgllpaa.Tr
/-- How an assertion is written. -/
def asS (n : Int) : ByteArray := if (n == 1) = true then ⟨#[92, 65]⟩ else if (n == 2) = true then ⟨#[92, 122]⟩ else if (n == 4) = true then ⟨#[94]⟩ else if (n == 8) = true then ⟨#[36]⟩ else if (n == 16) = true then ⟨#[92, 98]⟩ else if (n == 32) = true then ⟨#[92, 66]⟩ else ⟨#[]⟩
set_option maxRecDepth 100000 in
set_option maxHeartbeats 1000000 in
theorem assertion_any (n : Int) (w : World) :
    Calls Try.prog 77 #[.int .i64 n] w fun e w' => e = .returned (.string (asS n)) ∧ w = w' := by
  go_enter Try.func77, Try.ntmps77
  go_wp2_with fail
  all_goals go_ret
  all_goals exact ⟨by simp only [asS, *]; rfl, rfl⟩
theorem wordB (c : UInt8) : word (wrap64 (c.toNat : Int)) = (letterB c || digitB c) := by
  have h := UInt8.toNat_lt c
  have e : wrap64 (c.toNat : Int) = (c.toNat : Int) := by unfold wrap64; omega
  rw [e]
  unfold word letterB digitB
  rw [Bool.eq_iff_iff]
  simp only [decide_eq_true_eq, Bool.or_eq_true, Bool.and_eq_true, beq_iff_eq]
  omega
def wordsTo (s : ByteArray) (i : Nat) : Bool := (s.data.toList.take i).all fun c => letterB c || digitB c
theorem words_step {s : ByteArray} {i : Nat} (h : i < s.size) : wordsTo s (i + 1) = (wordsTo s i && (letterB (s[i]'h) || digitB (s[i]'h))) := by
  unfold wordsTo
  rw [List.take_add_one, List.all_append]
  have e : s.data.toList[i]? = some (s[i]'h) := by
    rw [Array.getElem?_toList, Array.getElem?_eq_getElem h]; rfl
  rw [e]
  simp
theorem words_no {s : ByteArray} {i : Nat} (h : wordsTo s i = false) : nameB s = false := by
  unfold nameB
  have : (s.data.toList.all fun c => letterB c || digitB c) = false := by
    cases hh : s.data.toList.all fun c => letterB c || digitB c with
    | false => rfl
    | true =>
      rw [← h]; symm
      unfold wordsTo
      rw [List.all_eq_true] at hh ⊢
      exact fun c hc => hh c (List.mem_of_mem_take hc)
  rw [this]; simp
theorem name_end {s : ByteArray} (h : wordsTo s s.size = true) : nameB s = (decide (1 ≤ s.size) && (decide (s.size ≤ 32) && !(digitB (s.data.toList.getD 0 0)))) := by
  unfold nameB
  have : (s.data.toList.all fun c => letterB c || digitB c) = true := by
    unfold wordsTo at h
    rwa [List.take_of_length_le (by rw [Array.length_toList]; exact Nat.le_refl _)] at h
  rw [this, Bool.and_true, Bool.and_assoc]
theorem name_head {s : ByteArray} (h : 0 < s.size) : s.data.toList.getD 0 0 = s[0]'h := by
  rw [List.getD_eq_getElem?_getD, Array.getElem?_toList, Array.getElem?_eq_getElem h]; rfl
set_option maxRecDepth 100000 in
set_option maxHeartbeats 1000000 in
theorem name_any (s : ByteArray) (w : World) (hs : s.size ≤ 1048576) :
    Calls Try.prog 78 #[.string s] w fun e w' => e = .returned (.bool (nameB s)) ∧ w = w' := by
  go_enter Try.func78, Try.ntmps78
  go_wp2_with fail
  go_loopw [6] (fun iv wr => ∃ i : Nat, i ≤ s.size ∧ iv = .int .i64 (i : Int) ∧ wordsTo s i = true ∧ wr = w) (fun iv _ => s.size - (intOf iv).toNat)
  case atStart => exact ⟨0, Nat.zero_le _, rfl, by simp [wordsTo], rfl⟩
  case round =>
    obtain ⟨i, hi, rfl, ht, rfl⟩ := hrel
    have HT := Lib.hid ht
    clear ht
    by_cases hlt : i < s.size
    · have hlt2 : (i : Int) < (s.size : Int) := by omega
      have hst := words_step hlt
      rw [HT.out, Bool.true_and, ← wordB] at hst
      obtain ⟨b, hb⟩ : ∃ b, b = word (wrap64 ((s[i]'hlt).toNat : Int)) := ⟨_, rfl⟩
      rw [← hb] at hst
      have HW := Lib.hid (word_any (wrap64 ((s[i]'hlt).toNat : Int)))
      rw [← hb] at HW
      clear hb
      have HST := Lib.hid hst
      clear hst
      cases b with
      | true =>
        go_wp2_with (go_at_call 88; refine (HW.out wr).mono ?_; rintro e w2 ⟨rfl, rfl⟩; simp only [])
        go_roundw
        case rel => exact ⟨i + 1, by omega, by go_num, HST.out, by trivial⟩
        case measure => simp [intOf]; omega
      | false =>
        go_wp2_with (go_at_call 88; refine (HW.out wr).mono ?_; rintro e w2 ⟨rfl, rfl⟩; simp only [])
        go_ret
        exact ⟨ret_bool (words_no HST.out).symm, rfl⟩
    · obtain rfl : i = s.size := by omega
      have hlt2 : ¬ ((s.size : Int) < (s.size : Int)) := by omega
      have hne := name_end HT.out
      by_cases h1 : s.size = 0
      · have h1a : ¬ ((1 : Int) ≤ (s.size : Int)) := by omega
        have e1 : decide (1 ≤ s.size) = false := decide_eq_false (by omega)
        rw [e1, Bool.false_and] at hne
        have HNE := Lib.hid hne
        clear hne e1
        go_wp2_with fail
        go_ret
        exact ⟨ret_bool HNE.out.symm, rfl⟩
      · have h1a : (1 : Int) ≤ (s.size : Int) := by omega
        have e1 : decide (1 ≤ s.size) = true := decide_eq_true (by omega)
        have hpos : 0 < s.size := by omega
        rw [e1, Bool.true_and, name_head hpos] at hne
        by_cases h2 : s.size ≤ 32
        · have h2a : (s.size : Int) ≤ 32 := by omega
          have e2 : decide (s.size ≤ 32) = true := by simp; omega
          rw [e2, Bool.true_and] at hne
          have hc := UInt8.toNat_lt (s[0]'hpos)
          have HNE := Lib.hid hne
          clear h1 h2 hne e1 e2
          go_wp2_with fail
          all_goals go_ret
          all_goals exact ⟨ret_bool (HNE.out.trans (by unfold digitB; rw [Bool.eq_iff_iff]; simp; omega)).symm, rfl⟩
        · have h2a : ¬ ((s.size : Int) ≤ 32) := by omega
          have e2 : decide (s.size ≤ 32) = false := by simp; omega
          rw [e2, Bool.false_and] at hne
          have HNE := Lib.hid hne
          clear h1 h2 hne e1 e2
          go_wp2_with fail
          go_ret
          exact ⟨ret_bool HNE.out.symm, rfl⟩
end Go.Proofs.Yteimpcjafgllpaa
