/- look: At, Holds. -/
import Derived.Test.YteiggbbljgkloaaQMach
import Derived.Test.YteiggbbljgkloaaQMem
import Derived.Handy
namespace Go.Proofs.Yteiggbbljgkloaa
open Go.RowKit Go.Proofs.Yteiggbbljgkloaa.Mach

theorem or_low : ∀ j < 6, ∀ s < 2 ^ j, bits .or .i64 ((s : Nat) : Int) ((2 ^ j : Nat) : Int) = ((s + 2 ^ j : Nat) : Int) := by decide +kernel
theorem andNot_bit : ∀ j < 6, ∀ s < 64, (bits .andNot .i64 ((2 ^ j : Nat) : Int) ((s : Nat) : Int) == 0) = decide (((s : Nat) : Int) / ((2 ^ j : Nat) : Int) % 2 = 1) := by decide +kernel

set_option maxHeartbeats 1000000 in
theorem holds_any (j s : Nat) (hj : j < 6) (hs : s < 64) (w : World) :
    Calls Try.prog 23 #[.int .i64 ((2 ^ j : Nat) : Int), .int .i64 (s : Int)] w fun e w' => e = .returned (.bool (decide (((s : Nat) : Int) / ((2 ^ j : Nat) : Int) % 2 = 1))) ∧ w = w' := by
  have H := andNot_bit j hj s hs
  generalize ((2 ^ j : Nat) : Int) = p at *
  generalize decide ((s : Int) / p % 2 = 1) = r at *
  obtain ⟨q, hq⟩ : ∃ q, bits .andNot .i64 p (s : Int) = q := ⟨_, rfl⟩
  rw [hq] at H
  go_enter Try.func23, Try.ntmps23
  go_wp2_with fail
  go_ret
  exact ⟨rfl, rfl⟩

/-- The text at a place, and the one ahead. -/
theorem text_at {w : World} {B n c : Nat} {b off : Nat} {t : List Int} (h : Reads w B 1 (some ⟨b, off, none⟩) n c (t.map (Value.int .i64))) {k : Nat} (hk : k < n) : w.cell? ⟨b, off + k, none⟩ = some (.int .i64 (t.getD k 0)) := by
  have hl : t.length = n := by have := h.len; simpa using this
  refine h.cellAt ?_
  rw [List.getElem?_map, List.getElem?_eq_getElem (by omega), List.getD_eq_getElem?_getD, List.getElem?_eq_getElem (by omega)]
  rfl

section
variable (A : Option Addr) (n c k : Nat) (t : List Int) (w : World)
set_option maxHeartbeats 1000000 in
theorem first_any : Calls Try.prog 49 #[.agg #[.slice A n c, .int .i64 (k : Int)]] w fun e w' => e = .returned (.bool (decide (k = 0))) ∧ Below w.heap.size w w' := by
  by_cases h : k = 0
  · subst h
    go_enter Try.func49, Try.ntmps49
    go_wp2_with fail
    go_ret
    exact ⟨rfl, (Below.refl _ _).alloc (Nat.le_refl _) _⟩
  · have h1 : ((k : Int) == 0) = false := by rw [beq_eq_false_iff_ne]; omega
    have hk : 0 < k := by omega
    go_enter Try.func49, Try.ntmps49
    go_wp2_with fail
    go_ret
    exact ⟨ret_bool (by simp [h]), (Below.refl _ _).alloc (Nat.le_refl _) _⟩
set_option maxHeartbeats 1000000 in
theorem last_any (hn : t.length = n) : Calls Try.prog 50 #[.agg #[.slice A n c, .int .i64 (k : Int)]] w fun e w' => e = .returned (.bool (decide (k = t.length))) ∧ Below w.heap.size w w' := by
  rw [hn]
  clear hn
  by_cases h : k = n
  · have h1 : ((k : Int) == (n : Int)) = true := by rw [beq_iff_eq]; omega
    have HH := Lib.hid h
    clear h
    go_enter Try.func50, Try.ntmps50
    go_wp2_with fail
    go_ret
    exact ⟨ret_bool (by simp [HH.out]), (Below.refl _ _).alloc (Nat.le_refl _) _⟩
  · have h1 : ((k : Int) == (n : Int)) = false := by rw [beq_eq_false_iff_ne]; omega
    go_enter Try.func50, Try.ntmps50
    go_wp2_with fail
    go_ret
    exact ⟨ret_bool (by simp [h]), (Below.refl _ _).alloc (Nat.le_refl _) _⟩
end
section
variable (A : Option Addr) (n c k : Nat) (t : List Int) (w : World)
set_option maxHeartbeats 1000000 in
theorem begin_any (hr : Reads w w.heap.size 1 A n c (t.map (Value.int .i64))) (hk : k ≤ n) : Calls Try.prog 51 #[.agg #[.slice A n c, .int .i64 (k : Int)]] w fun e w' => e = .returned (.bool (hb t k 2)) ∧ Below w.heap.size w w' := by
  have hb1 : Below w.heap.size w (w.alloc (.cells #[.slice A n c, .int .i64 (k : Int)] 90)) := (Below.refl _ _).alloc (Nat.le_refl _) _
  have hnc := hr.le
  have hcap := hr.cap
  have HF := Lib.hid (first_any A n c k (w.alloc (.cells #[.slice A n c, .int .i64 (k : Int)] 90)))
  have HR := Lib.hid hr
  have hx0 : (w.alloc (.cells #[.slice A n c, .int .i64 (k : Int)] 90)).cell? ⟨w.heap.size, 0, none⟩ = some (.slice A n c) := (Blk.new w _ [.slice A n c, .int .i64 (k : Int)]).cell 0
  have hx1 : (w.alloc (.cells #[.slice A n c, .int .i64 (k : Int)] 90)).cell? ⟨w.heap.size, 1, none⟩ = some (.int .i64 (k : Int)) := (Blk.new w _ [.slice A n c, .int .i64 (k : Int)]).cell 1
  have hsz : w.heap.size < (w.alloc (.cells #[.slice A n c, .int .i64 (k : Int)] 90)).heap.size := by simp
  have HX0 := Lib.hid hx0
  have HX1 := Lib.hid hx1
  have HSZ := Lib.hid hsz
  have HB1 := Lib.hid hb1
  clear hr hx0 hx1 hsz hb1
  by_cases h : k = 0
  · subst h
    go_enter Try.func51, Try.ntmps51
    go_wp2_with (go_at_call 49; refine HF.out.mono ?_; rintro e w1 ⟨rfl, hb2⟩)
    go_ret
    exact ⟨ret_bool (by simp [hb]), HB1.out.trans (hb2.mono (Nat.le_of_lt HSZ.out))⟩
  · obtain ⟨b, off, rfl, hbl, _⟩ := HR.out.at_ (by omega)
    have hct := text_at HR.out (k := k - 1) (by omega)
    have h1 : decide (k = 0) = false := decide_eq_false h
    have hj1 : ((k : Int) - 1).toNat = k - 1 := by omega
    have hj2 : 0 ≤ (k : Int) - 1 := by omega
    have hj3 : (k : Int) - 1 < n := by omega
    have hgd : hb t k 2 = (t.getD (k - 1) 0 == 10) := by simp [hb, h1]
    have HGD := Lib.hid hgd
    generalize t.getD (k - 1) 0 = z at *
    have HCT := Lib.hid hct
    clear hgd hct h
    go_enter Try.func51, Try.ntmps51
    go_wp2_with (go_at_call 49; refine HF.out.mono ?_; rintro e w1 ⟨rfl, hb2⟩; rw [h1]; have hy0 : w1.cell? ⟨w.heap.size, 0, none⟩ = some (.slice (some ⟨b, off, none⟩) n c) := (hb2.cell (p := ⟨w.heap.size, 0, none⟩) HSZ.out).trans HX0.out; have hy1 : w1.cell? ⟨w.heap.size, 1, none⟩ = some (.int .i64 (k : Int)) := (hb2.cell (p := ⟨w.heap.size, 1, none⟩) HSZ.out).trans HX1.out; have hy2 : w1.cell? ⟨b, off + (k - 1), none⟩ = some (.int .i64 z) := ((HB1.out.trans (hb2.mono (Nat.le_of_lt HSZ.out))).cell (p := ⟨b, off + (k - 1), none⟩) hbl).trans HCT.out)
    go_ret
    exact ⟨ret_bool HGD.out.symm, HB1.out.trans (hb2.mono (Nat.le_of_lt HSZ.out))⟩
set_option maxHeartbeats 1000000 in
theorem end_any (hr : Reads w w.heap.size 1 A n c (t.map (Value.int .i64))) (hk : k ≤ n) : Calls Try.prog 52 #[.agg #[.slice A n c, .int .i64 (k : Int)]] w fun e w' => e = .returned (.bool (hb t k 3)) ∧ Below w.heap.size w w' := by
  have hb1 : Below w.heap.size w (w.alloc (.cells #[.slice A n c, .int .i64 (k : Int)] 90)) := (Below.refl _ _).alloc (Nat.le_refl _) _
  have hnc := hr.le
  have hcap := hr.cap
  have hl : t.length = n := by have := hr.len; simpa using this
  have HF := Lib.hid (last_any A n c k t (w.alloc (.cells #[.slice A n c, .int .i64 (k : Int)] 90)) hl)
  have HR := Lib.hid hr
  have hx0 : (w.alloc (.cells #[.slice A n c, .int .i64 (k : Int)] 90)).cell? ⟨w.heap.size, 0, none⟩ = some (.slice A n c) := (Blk.new w _ [.slice A n c, .int .i64 (k : Int)]).cell 0
  have hx1 : (w.alloc (.cells #[.slice A n c, .int .i64 (k : Int)] 90)).cell? ⟨w.heap.size, 1, none⟩ = some (.int .i64 (k : Int)) := (Blk.new w _ [.slice A n c, .int .i64 (k : Int)]).cell 1
  have hsz : w.heap.size < (w.alloc (.cells #[.slice A n c, .int .i64 (k : Int)] 90)).heap.size := by simp
  have HX0 := Lib.hid hx0
  have HX1 := Lib.hid hx1
  have HSZ := Lib.hid hsz
  have HB1 := Lib.hid hb1
  have HL := Lib.hid hl
  clear hr hx0 hx1 hsz hb1 hl
  by_cases h : k = n
  · have h1 : decide (k = t.length) = true := decide_eq_true (by rw [HL.out]; exact h)
    have HH := Lib.hid (show hb t k 3 = true from by simp only [hb, h1, Bool.true_or])
    clear h
    go_enter Try.func52, Try.ntmps52
    go_wp2_with (go_at_call 50; refine HF.out.mono ?_; rintro e w1 ⟨rfl, hb2⟩; rw [h1])
    go_ret
    exact ⟨ret_bool HH.out.symm, HB1.out.trans (hb2.mono (Nat.le_of_lt HSZ.out))⟩
  · obtain ⟨b, off, rfl, hbl, _⟩ := HR.out.at_ (by omega)
    have hlt : k < n := by omega
    have hct := text_at HR.out hlt
    have h1 : decide (k = t.length) = false := decide_eq_false (by rw [HL.out]; exact h)
    have hgd : hb t k 3 = (t.getD k 0 == 10) := by simp [hb, h1]
    have HGD := Lib.hid hgd
    generalize t.getD k 0 = z at *
    have HCT := Lib.hid hct
    clear hgd hct h
    go_enter Try.func52, Try.ntmps52
    go_wp2_with (go_at_call 50; refine HF.out.mono ?_; rintro e w1 ⟨rfl, hb2⟩; rw [h1]; have hy0 : w1.cell? ⟨w.heap.size, 0, none⟩ = some (.slice (some ⟨b, off, none⟩) n c) := (hb2.cell (p := ⟨w.heap.size, 0, none⟩) HSZ.out).trans HX0.out; have hy1 : w1.cell? ⟨w.heap.size, 1, none⟩ = some (.int .i64 (k : Int)) := (hb2.cell (p := ⟨w.heap.size, 1, none⟩) HSZ.out).trans HX1.out; have hy2 : w1.cell? ⟨b, off + k, none⟩ = some (.int .i64 z) := ((HB1.out.trans (hb2.mono (Nat.le_of_lt HSZ.out))).cell (p := ⟨b, off + k, none⟩) hbl).trans HCT.out)
    go_ret
    exact ⟨ret_bool HGD.out.symm, HB1.out.trans (hb2.mono (Nat.le_of_lt HSZ.out))⟩
end
end Go.Proofs.Yteiggbbljgkloaa
