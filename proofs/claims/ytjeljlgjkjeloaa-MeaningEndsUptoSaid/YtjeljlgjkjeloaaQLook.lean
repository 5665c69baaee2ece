/- look: At, Holds. -/
import Derived.Test.YtjeljlgjkjeloaaQMemB
import Derived.Test.YtjeljlgjkjeloaaQMem
import Derived.Handy
import Derived.Laws.EntriesVeiled
namespace Go.Proofs.Ytjeljlgjkjeloaa
open Go.RowKit Go.Proofs.Ytjeljlgjkjeloaa.Mach

theorem or_low : ∀ j < 6, ∀ s < 2 ^ j, bits .or .i64 ((s : Nat) : Int) ((2 ^ j : Nat) : Int) = ((s + 2 ^ j : Nat) : Int) := by decide +kernel
theorem andNot_bit : ∀ j < 6, ∀ s < 64, (bits .andNot .i64 ((2 ^ j : Nat) : Int) ((s : Nat) : Int) == 0) = decide (((s : Nat) : Int) / ((2 ^ j : Nat) : Int) % 2 = 1) := by decide +kernel

set_option maxHeartbeats 1000000 in
theorem holds_any (j s : Nat) (hj : j < 6) (hs : s < 64) (w : World) :
    Calls Try.prog 44 #[.int .i64 ((2 ^ j : Nat) : Int), .int .i64 (s : Int)] w fun e w' => e = .returned (.bool (decide (((s : Nat) : Int) / ((2 ^ j : Nat) : Int) % 2 = 1))) ∧ w = w' := by
  have H := andNot_bit j hj s hs
  generalize ((2 ^ j : Nat) : Int) = p at *
  generalize decide ((s : Int) / p % 2 = 1) = r at *
  obtain ⟨q, hq⟩ : ∃ q, bits .andNot .i64 p (s : Int) = q := ⟨_, rfl⟩
  rw [hq] at H
  go_enter Try.func44, Try.ntmps44
  go_wp2_with fail
  go_ret
  exact ⟨rfl, rfl⟩

/-- The text at a place, and the one ahead. -/
theorem text_at {w : World} {B n c : Nat} {b off : Nat} {t : List Int} (h : Reads w B 1 (some ⟨b, off, none⟩) n c (t.map (Value.int .i64))) {k : Nat} (hk : k < n) : w.cell? ⟨b, off + k, none⟩ = some (.int .i64 (t.getD k 0)) := by
  have hl : t.length = n := by have := h.len; simpa using this
  refine h.cellAt ?_
  rw [List.getElem?_map, List.getElem?_eq_getElem (by omega), List.getD_eq_getElem?_getD, List.getElem?_eq_getElem (by omega)]
  rfl

section
variable (A : Option Addr) (n c k : Nat) (t : List Int) (w : World)
set_option maxHeartbeats 1000000 in
theorem first_any : Calls Try.prog 76 #[.agg #[.slice A n c, .int .i64 (k : Int)]] w fun e w' => e = .returned (.bool (decide (k = 0))) ∧ Below w.heap.size w w' := by
  by_cases h : k = 0
  · subst h
    go_enter Try.func76, Try.ntmps76
    go_wp2_with fail
    go_ret
    exact ⟨rfl, (Below.refl _ _).alloc (Nat.le_refl _) _⟩
  · have h1 : ((k : Int) == 0) = false := by rw [beq_eq_false_iff_ne]; omega
    have hk : 0 < k := by omega
    go_enter Try.func76, Try.ntmps76
    go_wp2_with fail
    go_ret
    exact ⟨ret_bool (by simp [h]), (Below.refl _ _).alloc (Nat.le_refl _) _⟩
set_option maxHeartbeats 1000000 in
theorem last_any (hn : t.length = n) : Calls Try.prog 77 #[.agg #[.slice A n c, .int .i64 (k : Int)]] w fun e w' => e = .returned (.bool (decide (k = t.length))) ∧ Below w.heap.size w w' := by
  rw [hn]
  clear hn
  by_cases h : k = n
  · have h1 : ((k : Int) == (n : Int)) = true := by rw [beq_iff_eq]; omega
    have HH := Lib.hid h
    clear h
    go_enter Try.func77, Try.ntmps77
    go_wp2_with fail
    go_ret
    exact ⟨ret_bool (by simp [HH.out]), (Below.refl _ _).alloc (Nat.le_refl _) _⟩
  · have h1 : ((k : Int) == (n : Int)) = false := by rw [beq_eq_false_iff_ne]; omega
    go_enter Try.func77, Try.ntmps77
    go_wp2_with fail
    go_ret
    exact ⟨ret_bool (by simp [h]), (Below.refl _ _).alloc (Nat.le_refl _) _⟩
end
section
variable (A : Option Addr) (n c k : Nat) (t : List Int) (w : World)
set_option maxHeartbeats 1000000 in
theorem begin_any (hr : Reads w w.heap.size 1 A n c (t.map (Value.int .i64))) (hk : k ≤ n) : Calls Try.prog 78 #[.agg #[.slice A n c, .int .i64 (k : Int)]] w fun e w' => e = .returned (.bool (hb t k 2)) ∧ Below w.heap.size w w' := by
  have hb1 : Below w.heap.size w (w.alloc (.cells #[.slice A n c, .int .i64 (k : Int)] 110)) := (Below.refl _ _).alloc (Nat.le_refl _) _
  have hnc := hr.le
  have hcap := hr.cap
  have HF := Lib.hid (first_any A n c k (w.alloc (.cells #[.slice A n c, .int .i64 (k : Int)] 110)))
  have HR := Lib.hid hr
  have hx0 : (w.alloc (.cells #[.slice A n c, .int .i64 (k : Int)] 110)).cell? ⟨w.heap.size, 0, none⟩ = some (.slice A n c) := (Blk.new w _ [.slice A n c, .int .i64 (k : Int)]).cell 0
  have hx1 : (w.alloc (.cells #[.slice A n c, .int .i64 (k : Int)] 110)).cell? ⟨w.heap.size, 1, none⟩ = some (.int .i64 (k : Int)) := (Blk.new w _ [.slice A n c, .int .i64 (k : Int)]).cell 1
  have hsz : w.heap.size < (w.alloc (.cells #[.slice A n c, .int .i64 (k : Int)] 110)).heap.size := by simp
  have HX0 := Lib.hid hx0
  have HX1 := Lib.hid hx1
  have HSZ := Lib.hid hsz
  have HB1 := Lib.hid hb1
  clear hr hx0 hx1 hsz hb1
  by_cases h : k = 0
  · subst h
    go_enter Try.func78, Try.ntmps78
    go_wp2_with (go_at_call 76; refine HF.out.mono ?_; rintro e w1 ⟨rfl, hb2⟩)
    go_ret
    exact ⟨ret_bool (by simp [hb]), HB1.out.trans (hb2.mono (Nat.le_of_lt HSZ.out))⟩
  · obtain ⟨b, off, rfl, hbl, _⟩ := HR.out.at_ (by omega)
    have hct := text_at HR.out (k := k - 1) (by omega)
    have h1 : decide (k = 0) = false := decide_eq_false h
    have hj1 : ((k : Int) - 1).toNat = k - 1 := by omega
    have hj2 : 0 ≤ (k : Int) - 1 := by omega
    have hj3 : (k : Int) - 1 < n := by omega
    have hgd : hb t k 2 = (t.getD (k - 1) 0 == 10) := by simp [hb, h1]
    have HGD := Lib.hid hgd
    generalize t.getD (k - 1) 0 = z at *
    have HCT := Lib.hid hct
    clear hgd hct h
    go_enter Try.func78, Try.ntmps78
    go_wp2_with (go_at_call 76; refine HF.out.mono ?_; rintro e w1 ⟨rfl, hb2⟩; rw [h1]; have hy0 : w1.cell? ⟨w.heap.size, 0, none⟩ = some (.slice (some ⟨b, off, none⟩) n c) := (hb2.cell (p := ⟨w.heap.size, 0, none⟩) HSZ.out).trans HX0.out; have hy1 : w1.cell? ⟨w.heap.size, 1, none⟩ = some (.int .i64 (k : Int)) := (hb2.cell (p := ⟨w.heap.size, 1, none⟩) HSZ.out).trans HX1.out; have hy2 : w1.cell? ⟨b, off + (k - 1), none⟩ = some (.int .i64 z) := ((HB1.out.trans (hb2.mono (Nat.le_of_lt HSZ.out))).cell (p := ⟨b, off + (k - 1), none⟩) hbl).trans HCT.out)
    go_ret
    exact ⟨ret_bool HGD.out.symm, HB1.out.trans (hb2.mono (Nat.le_of_lt HSZ.out))⟩
set_option maxHeartbeats 1000000 in
theorem end_any (hr : Reads w w.heap.size 1 A n c (t.map (Value.int .i64))) (hk : k ≤ n) : Calls Try.prog 79 #[.agg #[.slice A n c, .int .i64 (k : Int)]] w fun e w' => e = .returned (.bool (hb t k 3)) ∧ Below w.heap.size w w' := by
  have hb1 : Below w.heap.size w (w.alloc (.cells #[.slice A n c, .int .i64 (k : Int)] 110)) := (Below.refl _ _).alloc (Nat.le_refl _) _
  have hnc := hr.le
  have hcap := hr.cap
  have hl : t.length = n := by have := hr.len; simpa using this
  have HF := Lib.hid (last_any A n c k t (w.alloc (.cells #[.slice A n c, .int .i64 (k : Int)] 110)) hl)
  have HR := Lib.hid hr
  have hx0 : (w.alloc (.cells #[.slice A n c, .int .i64 (k : Int)] 110)).cell? ⟨w.heap.size, 0, none⟩ = some (.slice A n c) := (Blk.new w _ [.slice A n c, .int .i64 (k : Int)]).cell 0
  have hx1 : (w.alloc (.cells #[.slice A n c, .int .i64 (k : Int)] 110)).cell? ⟨w.heap.size, 1, none⟩ = some (.int .i64 (k : Int)) := (Blk.new w _ [.slice A n c, .int .i64 (k : Int)]).cell 1
  have hsz : w.heap.size < (w.alloc (.cells #[.slice A n c, .int .i64 (k : Int)] 110)).heap.size := by simp
  have HX0 := Lib.hid hx0
  have HX1 := Lib.hid hx1
  have HSZ := Lib.hid hsz
  have HB1 := Lib.hid hb1
  have HL := Lib.hid hl
  clear hr hx0 hx1 hsz hb1 hl
  by_cases h : k = n
  · have h1 : decide (k = t.length) = true := decide_eq_true (by rw [HL.out]; exact h)
    have HH := Lib.hid (show hb t k 3 = true from by simp only [hb, h1, Bool.true_or])
    clear h
    go_enter Try.func79, Try.ntmps79
    go_wp2_with (go_at_call 77; refine HF.out.mono ?_; rintro e w1 ⟨rfl, hb2⟩; rw [h1])
    go_ret
    exact ⟨ret_bool HH.out.symm, HB1.out.trans (hb2.mono (Nat.le_of_lt HSZ.out))⟩
  · obtain ⟨b, off, rfl, hbl, _⟩ := HR.out.at_ (by omega)
    have hlt : k < n := by omega
    have hct := text_at HR.out hlt
    have h1 : decide (k = t.length) = false := decide_eq_false (by rw [HL.out]; exact h)
    have hgd : hb t k 3 = (t.getD k 0 == 10) := by simp [hb, h1]
    have HGD := Lib.hid hgd
    generalize t.getD k 0 = z at *
    have HCT := Lib.hid hct
    clear hgd hct h
    go_enter Try.func79, Try.ntmps79
    go_wp2_with (go_at_call 77; refine HF.out.mono ?_; rintro e w1 ⟨rfl, hb2⟩; rw [h1]; have hy0 : w1.cell? ⟨w.heap.size, 0, none⟩ = some (.slice (some ⟨b, off, none⟩) n c) := (hb2.cell (p := ⟨w.heap.size, 0, none⟩) HSZ.out).trans HX0.out; have hy1 : w1.cell? ⟨w.heap.size, 1, none⟩ = some (.int .i64 (k : Int)) := (hb2.cell (p := ⟨w.heap.size, 1, none⟩) HSZ.out).trans HX1.out; have hy2 : w1.cell? ⟨b, off + k, none⟩ = some (.int .i64 z) := ((HB1.out.trans (hb2.mono (Nat.le_of_lt HSZ.out))).cell (p := ⟨b, off + k, none⟩) hbl).trans HCT.out)
    go_ret
    exact ⟨ret_bool HGD.out.symm, HB1.out.trans (hb2.mono (Nat.le_of_lt HSZ.out))⟩
end
end Go.Proofs.Ytjeljlgjkjeloaa
/- look.At -/
namespace Go.Proofs.Ytjeljlgjkjeloaa
open Go.RowKit Go.Proofs.Ytjeljlgjkjeloaa.Mach

section
variable (A : Option Addr) (n c k : Nat) (t : List Int) (w : World)
set_option maxRecDepth 100000 in
set_option maxHeartbeats 2000000 in
theorem edge_any (hr : Reads w w.heap.size 1 A n c (t.map (Value.int .i64))) (hk : k ≤ n) : Calls Try.prog 80 #[.agg #[.slice A n c, .int .i64 (k : Int)]] w fun e w' => e = .returned (.bool (hb t k 4)) ∧ Below w.heap.size w w' := by
  have hb1 : Below w.heap.size w (w.alloc (.cells #[.slice A n c, .int .i64 (k : Int)] 110)) := (Below.refl _ _).alloc (Nat.le_refl _) _
  have hnc := hr.le
  have hcap := hr.cap
  have hl : t.length = n := by have := hr.len; simpa using this
  obtain ⟨B, hB⟩ : ∃ B, B = w.heap.size := ⟨_, rfl⟩
  have HR := Lib.hid hr
  have hx0 : (w.alloc (.cells #[.slice A n c, .int .i64 (k : Int)] 110)).cell? ⟨w.heap.size, 0, none⟩ = some (.slice A n c) := (Blk.new w _ [.slice A n c, .int .i64 (k : Int)]).cell 0
  have hx1 : (w.alloc (.cells #[.slice A n c, .int .i64 (k : Int)] 110)).cell? ⟨w.heap.size, 1, none⟩ = some (.int .i64 (k : Int)) := (Blk.new w _ [.slice A n c, .int .i64 (k : Int)]).cell 1
  have hsz : w.heap.size < (w.alloc (.cells #[.slice A n c, .int .i64 (k : Int)] 110)).heap.size := by simp
  have HX0 := Lib.hid hx0
  have HX1 := Lib.hid hx1
  have HSZ := Lib.hid hsz
  have HB1 := Lib.hid hb1
  have HL := Lib.hid hl
  -- what the two loads give, wherever they are run
  have H0 := Lib.hid (show ∀ u, Below (w.alloc (.cells #[.slice A n c, .int .i64 (k : Int)] 110)).heap.size (w.alloc (.cells #[.slice A n c, .int .i64 (k : Int)] 110)) u → u.cell? ⟨w.heap.size, 0, none⟩ = some (.slice A n c) ∧ u.cell? ⟨w.heap.size, 1, none⟩ = some (.int .i64 (k : Int)) from fun u h => ⟨(h.cell (p := ⟨w.heap.size, 0, none⟩) hsz).trans hx0, (h.cell (p := ⟨w.heap.size, 1, none⟩) hsz).trans hx1⟩)
  have HT := Lib.hid (show ∀ u b off, A = some ⟨b, off, none⟩ → Below (w.alloc (.cells #[.slice A n c, .int .i64 (k : Int)] 110)).heap.size (w.alloc (.cells #[.slice A n c, .int .i64 (k : Int)] 110)) u → ∀ j, j < n → u.cell? ⟨b, off + j, none⟩ = some (.int .i64 (t.getD j 0)) from fun u b off e h j hj => by
    have h2 := hr.below (hb1.trans (h.mono (Nat.le_of_lt hsz)))
    rw [e] at h2
    exact text_at h2 hj)
  have HF := Lib.hid (fun u => first_any A n c k u)
  have HLA := Lib.hid (fun u => last_any A n c k t u hl)
  have hW : ∀ a, word a = word a := fun _ => rfl
  obtain ⟨za, hza⟩ : ∃ z, z = t.getD (k - 1) 0 := ⟨_, rfl⟩
  obtain ⟨zb, hzb⟩ : ∃ z, z = t.getD k 0 := ⟨_, rfl⟩
  have HZA := Lib.hid hza
  have HZB := Lib.hid hzb
  have HHB := Lib.hid (show hb t k 4 = ((!decide (k = 0) && word za) != (!decide (k = n) && word zb)) from by rw [hza, hzb, ← hl]; rfl)
  have HPOS := Lib.hid (show 0 < n → ∃ b off, A = some ⟨b, off, none⟩ from fun h => by obtain ⟨b, off, e, _⟩ := hr.at_ h; exact ⟨b, off, e⟩)
  clear hr hx0 hx1 hsz hb1 hl hW hza hzb hB B
  by_cases g1 : k = 0
  · by_cases g2 : k = n
    · have h1 : decide (k = 0) = true := decide_eq_true g1
      have h2 : decide (k = t.length) = true := decide_eq_true (by rw [HL.out]; exact g2)
      have h3 : decide (k = n) = true := decide_eq_true g2
      have HR2 := Lib.hid (show hb t k 4 = false from by rw [HHB.out, h1, h3]; simp)
      clear g1 g2 h3
      go_enter Try.func80, Try.ntmps80
      go_wp2_with (first | (go_at_call 76; refine (HF.out _).mono ?_; rintro e w1 ⟨rfl, hb2⟩; rw [h1]; have hy0 : w1.cell? ⟨w.heap.size, 0, none⟩ = some (.slice A n c) := (H0.out w1 hb2).1; have hy1 : w1.cell? ⟨w.heap.size, 1, none⟩ = some (.int .i64 (k : Int)) := (H0.out w1 hb2).2) | (go_at_call 77; refine (HLA.out _).mono ?_; rintro e w2 ⟨rfl, hb3⟩; rw [h2]; have hq2 := hb2.trans (hb3.mono hb2.size); have hz0 : w2.cell? ⟨w.heap.size, 0, none⟩ = some (.slice A n c) := (H0.out w2 hq2).1; have hz1 : w2.cell? ⟨w.heap.size, 1, none⟩ = some (.int .i64 (k : Int)) := (H0.out w2 hq2).2) | (go_at_call 83; refine (word_any _ _).mono ?_; rintro e w' ⟨rfl, rfl⟩))
      go_ret
      exact ⟨ret_bool (by first | exact HR2.out.symm | (rw [HR2.out]; simp; done)), HB1.out.trans ((hb2.trans (hb3.mono hb2.size)).mono (Nat.le_of_lt HSZ.out))⟩
    · have h1 : decide (k = 0) = true := decide_eq_true g1
      have h2 : decide (k = t.length) = false := decide_eq_false (by rw [HL.out]; exact g2)
      obtain ⟨b, off, rfl⟩ := HPOS.out (by omega)
      have hlt : k < n := by omega
      have h3 : decide (k = n) = false := decide_eq_false g2
      have HR2 := Lib.hid (show hb t k 4 = word zb from by rw [HHB.out, h1, h3]; simp)
      clear g1 g2 h3
      go_enter Try.func80, Try.ntmps80
      go_wp2_with (first | (go_at_call 76; refine (HF.out _).mono ?_; rintro e w1 ⟨rfl, hb2⟩; rw [h1]; have hy0 : w1.cell? ⟨w.heap.size, 0, none⟩ = some (.slice (some ⟨b, off, none⟩) n c) := (H0.out w1 hb2).1; have hy1 : w1.cell? ⟨w.heap.size, 1, none⟩ = some (.int .i64 (k : Int)) := (H0.out w1 hb2).2) | (go_at_call 77; refine (HLA.out _).mono ?_; rintro e w2 ⟨rfl, hb3⟩; rw [h2]; have hq2 := hb2.trans (hb3.mono hb2.size); have hz0 : w2.cell? ⟨w.heap.size, 0, none⟩ = some (.slice (some ⟨b, off, none⟩) n c) := (H0.out w2 hq2).1; have hz1 : w2.cell? ⟨w.heap.size, 1, none⟩ = some (.int .i64 (k : Int)) := (H0.out w2 hq2).2; have hz2 : w2.cell? ⟨b, off + k, none⟩ = some (.int .i64 zb) := (by rw [HZB.out]; exact HT.out w2 b off rfl hq2 k (by omega))) | (go_at_call 83; refine (word_any _ _).mono ?_; rintro e w' ⟨rfl, rfl⟩))
      go_ret
      exact ⟨ret_bool (by first | exact HR2.out.symm | (rw [HR2.out]; simp; done)), HB1.out.trans ((hb2.trans (hb3.mono hb2.size)).mono (Nat.le_of_lt HSZ.out))⟩
  · by_cases g2 : k = n
    · have h1 : decide (k = 0) = false := decide_eq_false g1
      have h2 : decide (k = t.length) = true := decide_eq_true (by rw [HL.out]; exact g2)
      obtain ⟨b, off, rfl⟩ := HPOS.out (by omega)
      have hj1 : ((k : Int) - 1).toNat = k - 1 := by omega
      have hj2 : 0 ≤ (k : Int) - 1 := by omega
      have hj3 : (k : Int) - 1 < n := by omega
      have h3 : decide (k = n) = true := decide_eq_true g2
      have HR2 := Lib.hid (show hb t k 4 = word za from by rw [HHB.out, h1, h3]; simp)
      clear g1 g2 h3
      go_enter Try.func80, Try.ntmps80
      go_wp2_with (first | (go_at_call 76; refine (HF.out _).mono ?_; rintro e w1 ⟨rfl, hb2⟩; rw [h1]; have hy0 : w1.cell? ⟨w.heap.size, 0, none⟩ = some (.slice (some ⟨b, off, none⟩) n c) := (H0.out w1 hb2).1; have hy1 : w1.cell? ⟨w.heap.size, 1, none⟩ = some (.int .i64 (k : Int)) := (H0.out w1 hb2).2; have hy2 : w1.cell? ⟨b, off + (k - 1), none⟩ = some (.int .i64 za) := (by rw [HZA.out]; exact HT.out w1 b off rfl hb2 (k - 1) (by omega))) | (go_at_call 77; refine (HLA.out _).mono ?_; rintro e w2 ⟨rfl, hb3⟩; rw [h2]; have hq2 := hb2.trans (hb3.mono hb2.size); have hz0 : w2.cell? ⟨w.heap.size, 0, none⟩ = some (.slice (some ⟨b, off, none⟩) n c) := (H0.out w2 hq2).1; have hz1 : w2.cell? ⟨w.heap.size, 1, none⟩ = some (.int .i64 (k : Int)) := (H0.out w2 hq2).2) | (go_at_call 83; refine (word_any _ _).mono ?_; rintro e w' ⟨rfl, rfl⟩))
      go_ret
      exact ⟨ret_bool (by first | exact HR2.out.symm | (rw [HR2.out]; simp; done)), HB1.out.trans ((hb2.trans (hb3.mono hb2.size)).mono (Nat.le_of_lt HSZ.out))⟩
    · have h1 : decide (k = 0) = false := decide_eq_false g1
      have h2 : decide (k = t.length) = false := decide_eq_false (by rw [HL.out]; exact g2)
      obtain ⟨b, off, rfl⟩ := HPOS.out (by omega)
      have hj1 : ((k : Int) - 1).toNat = k - 1 := by omega
      have hj2 : 0 ≤ (k : Int) - 1 := by omega
      have hj3 : (k : Int) - 1 < n := by omega
      have hlt : k < n := by omega
      have h3 : decide (k = n) = false := decide_eq_false g2
      have HR2 := Lib.hid (show hb t k 4 = (word za != word zb) from by rw [HHB.out, h1, h3]; simp)
      clear g1 g2 h3
      go_enter Try.func80, Try.ntmps80
      go_wp2_with (first | (go_at_call 76; refine (HF.out _).mono ?_; rintro e w1 ⟨rfl, hb2⟩; rw [h1]; have hy0 : w1.cell? ⟨w.heap.size, 0, none⟩ = some (.slice (some ⟨b, off, none⟩) n c) := (H0.out w1 hb2).1; have hy1 : w1.cell? ⟨w.heap.size, 1, none⟩ = some (.int .i64 (k : Int)) := (H0.out w1 hb2).2; have hy2 : w1.cell? ⟨b, off + (k - 1), none⟩ = some (.int .i64 za) := (by rw [HZA.out]; exact HT.out w1 b off rfl hb2 (k - 1) (by omega))) | (go_at_call 77; refine (HLA.out _).mono ?_; rintro e w2 ⟨rfl, hb3⟩; rw [h2]; have hq2 := hb2.trans (hb3.mono hb2.size); have hz0 : w2.cell? ⟨w.heap.size, 0, none⟩ = some (.slice (some ⟨b, off, none⟩) n c) := (H0.out w2 hq2).1; have hz1 : w2.cell? ⟨w.heap.size, 1, none⟩ = some (.int .i64 (k : Int)) := (H0.out w2 hq2).2; have hz2 : w2.cell? ⟨b, off + k, none⟩ = some (.int .i64 zb) := (by rw [HZB.out]; exact HT.out w2 b off rfl hq2 k (by omega))) | (go_at_call 83; refine (word_any _ _).mono ?_; rintro e w' ⟨rfl, rfl⟩))
      go_ret
      exact ⟨ret_bool (by first | exact HR2.out.symm | (rw [HR2.out]; simp; done)), HB1.out.trans ((hb2.trans (hb3.mono hb2.size)).mono (Nat.le_of_lt HSZ.out))⟩
set_option maxHeartbeats 1000000 in
theorem noEdge_any (hr : Reads w w.heap.size 1 A n c (t.map (Value.int .i64))) (hk : k ≤ n) : Calls Try.prog 81 #[.agg #[.slice A n c, .int .i64 (k : Int)]] w fun e w' => e = .returned (.bool (hb t k 5)) ∧ Below w.heap.size w w' := by
  have hb1 : Below w.heap.size w (w.alloc (.cells #[.slice A n c, .int .i64 (k : Int)] 110)) := (Below.refl _ _).alloc (Nat.le_refl _) _
  have HE := Lib.hid (edge_any A n c k t _ ((hr.below hb1).more hb1.size) hk)
  have hs := hb1.size
  have HH := Lib.hid (show hb t k 5 = !(hb t k 4) from rfl)
  clear hr
  go_enter Try.func81, Try.ntmps81
  go_wp2_with fail
  refine HE.out.mono ?_
  rintro e w1 ⟨rfl, hb2⟩
  go_wp2_with fail
  go_ret
  exact ⟨ret_bool HH.out.symm, hb1.trans (hb2.mono hs)⟩
end

/-- The rows of At. -/
def rowsV : List Value := [.int .i64 1, .int .i64 2, .func (.func 76) #[] #[], .int .i64 2, .int .i64 1, .func (.func 77) #[] #[], .int .i64 4, .int .i64 8, .func (.func 78) #[] #[],
  .int .i64 8, .int .i64 4, .func (.func 79) #[] #[], .int .i64 16, .int .i64 16, .func (.func 80) #[] #[], .int .i64 32, .int .i64 32, .func (.func 81) #[] #[]]
set_option maxHeartbeats 1000000 in
theorem rows_any (w : World) : Calls Try.prog 65 #[] w fun e w' => e = .returned (.slice (some ⟨w.heap.size, 0, none⟩) 6 6) ∧ Blk w' w.heap.size 108 rowsV ∧ Below w.heap.size w w' := by
  go_enter Try.func65, Try.ntmps65
  go_wp2_with fail
  go_ret
  exact ⟨rfl, Blk.new w _ rowsV, (Below.refl _ _).alloc (Nat.le_refl _) _⟩
theorem sumB_step {t : List Int} {k j : Nat} : ((sumB (hb t k) (j + 1) : Nat) : Int) = if hb t k j then ((sumB (hb t k) j + 2 ^ j : Nat) : Int) else ((sumB (hb t k) j : Nat) : Int) := by
  rw [sumB]; split <;> simp
set_option maxRecDepth 100000 in
set_option maxHeartbeats 4000000 in
theorem at_any (A : Option Addr) (n c k : Nat) (t : List Int) (w : World) (hr : Reads w w.heap.size 1 A n c (t.map (Value.int .i64))) (hk : k ≤ n) :
    Calls Try.prog 45 #[.slice A n c, .int .i64 (k : Int)] w fun e w' => e = .returned (.int .i64 (atBits t k)) ∧ Below w.heap.size w w' := by
  have hl : t.length = n := by have := hr.len; simpa using this
  have HL := Lib.hid hl
  have HR := Lib.hid hr
  have hcap := hr.cap
  have hnc := hr.le
  have HAT := Lib.hid (show atBits t k = ((sumB (hb t k) 6 : Nat) : Int) from rfl)
  clear hl hr
  go_enter Try.func45, Try.ntmps45
  go_wp2_with fail
  refine (rows_any w).mono ?_
  rintro e w1 ⟨rfl, hbk, hb1⟩
  have HBK := Lib.hid hbk
  have hR1 := hbk.lt
  clear hbk
  go_wp2_with fail
  go_loopw [5, 18] (fun b p wr => ∃ j : Nat, j ≤ 6 ∧ p = .int .i64 j ∧ b = .int .i64 ((sumB (hb t k) j : Nat) : Int) ∧ Below w1.heap.size w1 wr) (fun _ p _ => 6 - (intOf p).toNat)
  case atStart => exact ⟨0, by omega, rfl, rfl, Below.refl _ _⟩
  case round =>
    obtain ⟨j, hj6, rfl, rfl, hbel⟩ := hrel
    have hszr := hbel.size
    have hbw : Below w.heap.size w wr := hb1.trans (hbel.mono hb1.size)
    have hblk := HBK.out.below hbel hR1
    have hrd := (HR.out.below hbw).more hbw.size
    by_cases hlt : j < 6
    · have hst := sumB_step (t := t) (k := k) (j := j)
      have HB := Lib.hid hblk
      have HD := Lib.hid hrd
      have HST := Lib.hid hst
      have HBEL := Lib.hid hbel
      clear hblk hrd hst
      rcases (show j = 0 ∨ j = 1 ∨ j = 2 ∨ j = 3 ∨ j = 4 ∨ j = 5 from by omega) with rfl | rfl | rfl | rfl | rfl | rfl
      · have c0 := HB.out.cell 0
        have c1 := HB.out.cell 1
        have c2 := HB.out.cell 2
        simp only [rowsV, List.getElem?_cons_zero, List.getElem?_cons_succ] at c0 c1 c2
        have HC := Lib.hid (show ∀ u : World, Reads u u.heap.size 1 A n c (t.map (Value.int .i64)) → Calls Try.prog 76 #[.agg #[.slice A n c, .int .i64 (k : Int)]] u fun e w' => e = .returned (.bool (hb t k 0)) ∧ Below u.heap.size u w' from fun u h => (first_any _ n c k u))
        have hal : Below wr.heap.size wr (wr.alloc (.cells #[.int .i64 1, .int .i64 2, .func (.func 76) #[] #[]] 108)) := (Below.refl _ _).alloc (Nat.le_refl _) _
        have hbx : (wr.alloc (.cells #[.int .i64 1, .int .i64 2, .func (.func 76) #[] #[]] 108)).cell? ⟨wr.heap.size, 0, none⟩ = some (.int .i64 1) := (Blk.new wr _ [.int .i64 1, .int .i64 2, .func (.func 76) #[] #[]]).cell 0
        have HBX := Lib.hid hbx
        have HAL := Lib.hid hal
        have HRA := Lib.hid ((HD.out.below hal).more hal.size)
        have hsl : wr.heap.size < (wr.alloc (.cells #[.int .i64 1, .int .i64 2, .func (.func 76) #[] #[]] 108)).heap.size := by simp
        have HSL := Lib.hid hsl
        clear hbx hal hsl
        have horj : bits .or .i64 ((sumB (hb t k) 0 : Nat) : Int) 1 = ((sumB (hb t k) 0 : Nat) : Int) + 1 := by have := or_low 0 (by omega) (sumB (hb t k) 0) (sumB_lt _ _); simpa using this
        cases hv : hb t k 0
        all_goals
          go_wp2_with (go_at_call 76; refine (HC.out _ HRA.out).mono ?_; rintro e w2 ⟨rfl, hb2⟩; rw [hv]; have hx : w2.cell? ⟨wr.heap.size, 0, none⟩ = some (.int .i64 1) := (hb2.cell (p := ⟨wr.heap.size, 0, none⟩) HSL.out).trans HBX.out)
          have hbe := HBEL.out.trans ((HAL.out.trans (hb2.mono (Nat.le_of_lt HSL.out))).mono hszr)
          exact ⟨⟨1, by omega, by go_num, by rw [HST.out, hv]; (first | rfl | (simp; done) | (simp [horj]; done)), hbe⟩, by simp [intOf]⟩
      · have c0 := HB.out.cell 3
        have c1 := HB.out.cell 4
        have c2 := HB.out.cell 5
        simp only [rowsV, List.getElem?_cons_zero, List.getElem?_cons_succ] at c0 c1 c2
        have HC := Lib.hid (show ∀ u : World, Reads u u.heap.size 1 A n c (t.map (Value.int .i64)) → Calls Try.prog 77 #[.agg #[.slice A n c, .int .i64 (k : Int)]] u fun e w' => e = .returned (.bool (hb t k 1)) ∧ Below u.heap.size u w' from fun u h => (last_any _ n c k t u HL.out))
        have hal : Below wr.heap.size wr (wr.alloc (.cells #[.int .i64 2, .int .i64 1, .func (.func 77) #[] #[]] 108)) := (Below.refl _ _).alloc (Nat.le_refl _) _
        have hbx : (wr.alloc (.cells #[.int .i64 2, .int .i64 1, .func (.func 77) #[] #[]] 108)).cell? ⟨wr.heap.size, 0, none⟩ = some (.int .i64 2) := (Blk.new wr _ [.int .i64 2, .int .i64 1, .func (.func 77) #[] #[]]).cell 0
        have HBX := Lib.hid hbx
        have HAL := Lib.hid hal
        have HRA := Lib.hid ((HD.out.below hal).more hal.size)
        have hsl : wr.heap.size < (wr.alloc (.cells #[.int .i64 2, .int .i64 1, .func (.func 77) #[] #[]] 108)).heap.size := by simp
        have HSL := Lib.hid hsl
        clear hbx hal hsl
        have horj : bits .or .i64 ((sumB (hb t k) 1 : Nat) : Int) 2 = ((sumB (hb t k) 1 : Nat) : Int) + 2 := by have := or_low 1 (by omega) (sumB (hb t k) 1) (sumB_lt _ _); simpa using this
        cases hv : hb t k 1
        all_goals
          go_wp2_with (go_at_call 77; refine (HC.out _ HRA.out).mono ?_; rintro e w2 ⟨rfl, hb2⟩; rw [hv]; have hx : w2.cell? ⟨wr.heap.size, 0, none⟩ = some (.int .i64 2) := (hb2.cell (p := ⟨wr.heap.size, 0, none⟩) HSL.out).trans HBX.out)
          have hbe := HBEL.out.trans ((HAL.out.trans (hb2.mono (Nat.le_of_lt HSL.out))).mono hszr)
          exact ⟨⟨2, by omega, by go_num, by rw [HST.out, hv]; (first | rfl | (simp; done) | (simp [horj]; done)), hbe⟩, by simp [intOf]⟩
      · have c0 := HB.out.cell 6
        have c1 := HB.out.cell 7
        have c2 := HB.out.cell 8
        simp only [rowsV, List.getElem?_cons_zero, List.getElem?_cons_succ] at c0 c1 c2
        have HC := Lib.hid (show ∀ u : World, Reads u u.heap.size 1 A n c (t.map (Value.int .i64)) → Calls Try.prog 78 #[.agg #[.slice A n c, .int .i64 (k : Int)]] u fun e w' => e = .returned (.bool (hb t k 2)) ∧ Below u.heap.size u w' from fun u h => (begin_any _ n c k t u h hk))
        have hal : Below wr.heap.size wr (wr.alloc (.cells #[.int .i64 4, .int .i64 8, .func (.func 78) #[] #[]] 108)) := (Below.refl _ _).alloc (Nat.le_refl _) _
        have hbx : (wr.alloc (.cells #[.int .i64 4, .int .i64 8, .func (.func 78) #[] #[]] 108)).cell? ⟨wr.heap.size, 0, none⟩ = some (.int .i64 4) := (Blk.new wr _ [.int .i64 4, .int .i64 8, .func (.func 78) #[] #[]]).cell 0
        have HBX := Lib.hid hbx
        have HAL := Lib.hid hal
        have HRA := Lib.hid ((HD.out.below hal).more hal.size)
        have hsl : wr.heap.size < (wr.alloc (.cells #[.int .i64 4, .int .i64 8, .func (.func 78) #[] #[]] 108)).heap.size := by simp
        have HSL := Lib.hid hsl
        clear hbx hal hsl
        have horj : bits .or .i64 ((sumB (hb t k) 2 : Nat) : Int) 4 = ((sumB (hb t k) 2 : Nat) : Int) + 4 := by have := or_low 2 (by omega) (sumB (hb t k) 2) (sumB_lt _ _); simpa using this
        cases hv : hb t k 2
        all_goals
          go_wp2_with (go_at_call 78; refine (HC.out _ HRA.out).mono ?_; rintro e w2 ⟨rfl, hb2⟩; rw [hv]; have hx : w2.cell? ⟨wr.heap.size, 0, none⟩ = some (.int .i64 4) := (hb2.cell (p := ⟨wr.heap.size, 0, none⟩) HSL.out).trans HBX.out)
          have hbe := HBEL.out.trans ((HAL.out.trans (hb2.mono (Nat.le_of_lt HSL.out))).mono hszr)
          exact ⟨⟨3, by omega, by go_num, by rw [HST.out, hv]; (first | rfl | (simp; done) | (simp [horj]; done)), hbe⟩, by simp [intOf]⟩
      · have c0 := HB.out.cell 9
        have c1 := HB.out.cell 10
        have c2 := HB.out.cell 11
        simp only [rowsV, List.getElem?_cons_zero, List.getElem?_cons_succ] at c0 c1 c2
        have HC := Lib.hid (show ∀ u : World, Reads u u.heap.size 1 A n c (t.map (Value.int .i64)) → Calls Try.prog 79 #[.agg #[.slice A n c, .int .i64 (k : Int)]] u fun e w' => e = .returned (.bool (hb t k 3)) ∧ Below u.heap.size u w' from fun u h => (end_any _ n c k t u h hk))
        have hal : Below wr.heap.size wr (wr.alloc (.cells #[.int .i64 8, .int .i64 4, .func (.func 79) #[] #[]] 108)) := (Below.refl _ _).alloc (Nat.le_refl _) _
        have hbx : (wr.alloc (.cells #[.int .i64 8, .int .i64 4, .func (.func 79) #[] #[]] 108)).cell? ⟨wr.heap.size, 0, none⟩ = some (.int .i64 8) := (Blk.new wr _ [.int .i64 8, .int .i64 4, .func (.func 79) #[] #[]]).cell 0
        have HBX := Lib.hid hbx
        have HAL := Lib.hid hal
        have HRA := Lib.hid ((HD.out.below hal).more hal.size)
        have hsl : wr.heap.size < (wr.alloc (.cells #[.int .i64 8, .int .i64 4, .func (.func 79) #[] #[]] 108)).heap.size := by simp
        have HSL := Lib.hid hsl
        clear hbx hal hsl
        have horj : bits .or .i64 ((sumB (hb t k) 3 : Nat) : Int) 8 = ((sumB (hb t k) 3 : Nat) : Int) + 8 := by have := or_low 3 (by omega) (sumB (hb t k) 3) (sumB_lt _ _); simpa using this
        cases hv : hb t k 3
        all_goals
          go_wp2_with (go_at_call 79; refine (HC.out _ HRA.out).mono ?_; rintro e w2 ⟨rfl, hb2⟩; rw [hv]; have hx : w2.cell? ⟨wr.heap.size, 0, none⟩ = some (.int .i64 8) := (hb2.cell (p := ⟨wr.heap.size, 0, none⟩) HSL.out).trans HBX.out)
          have hbe := HBEL.out.trans ((HAL.out.trans (hb2.mono (Nat.le_of_lt HSL.out))).mono hszr)
          exact ⟨⟨4, by omega, by go_num, by rw [HST.out, hv]; (first | rfl | (simp; done) | (simp [horj]; done)), hbe⟩, by simp [intOf]⟩
      · have c0 := HB.out.cell 12
        have c1 := HB.out.cell 13
        have c2 := HB.out.cell 14
        simp only [rowsV, List.getElem?_cons_zero, List.getElem?_cons_succ] at c0 c1 c2
        have HC := Lib.hid (show ∀ u : World, Reads u u.heap.size 1 A n c (t.map (Value.int .i64)) → Calls Try.prog 80 #[.agg #[.slice A n c, .int .i64 (k : Int)]] u fun e w' => e = .returned (.bool (hb t k 4)) ∧ Below u.heap.size u w' from fun u h => (edge_any _ n c k t u h hk))
        have hal : Below wr.heap.size wr (wr.alloc (.cells #[.int .i64 16, .int .i64 16, .func (.func 80) #[] #[]] 108)) := (Below.refl _ _).alloc (Nat.le_refl _) _
        have hbx : (wr.alloc (.cells #[.int .i64 16, .int .i64 16, .func (.func 80) #[] #[]] 108)).cell? ⟨wr.heap.size, 0, none⟩ = some (.int .i64 16) := (Blk.new wr _ [.int .i64 16, .int .i64 16, .func (.func 80) #[] #[]]).cell 0
        have HBX := Lib.hid hbx
        have HAL := Lib.hid hal
        have HRA := Lib.hid ((HD.out.below hal).more hal.size)
        have hsl : wr.heap.size < (wr.alloc (.cells #[.int .i64 16, .int .i64 16, .func (.func 80) #[] #[]] 108)).heap.size := by simp
        have HSL := Lib.hid hsl
        clear hbx hal hsl
        have horj : bits .or .i64 ((sumB (hb t k) 4 : Nat) : Int) 16 = ((sumB (hb t k) 4 : Nat) : Int) + 16 := by have := or_low 4 (by omega) (sumB (hb t k) 4) (sumB_lt _ _); simpa using this
        cases hv : hb t k 4
        all_goals
          go_wp2_with (go_at_call 80; refine (HC.out _ HRA.out).mono ?_; rintro e w2 ⟨rfl, hb2⟩; rw [hv]; have hx : w2.cell? ⟨wr.heap.size, 0, none⟩ = some (.int .i64 16) := (hb2.cell (p := ⟨wr.heap.size, 0, none⟩) HSL.out).trans HBX.out)
          have hbe := HBEL.out.trans ((HAL.out.trans (hb2.mono (Nat.le_of_lt HSL.out))).mono hszr)
          exact ⟨⟨5, by omega, by go_num, by rw [HST.out, hv]; (first | rfl | (simp; done) | (simp [horj]; done)), hbe⟩, by simp [intOf]⟩
      · have c0 := HB.out.cell 15
        have c1 := HB.out.cell 16
        have c2 := HB.out.cell 17
        simp only [rowsV, List.getElem?_cons_zero, List.getElem?_cons_succ] at c0 c1 c2
        have HC := Lib.hid (show ∀ u : World, Reads u u.heap.size 1 A n c (t.map (Value.int .i64)) → Calls Try.prog 81 #[.agg #[.slice A n c, .int .i64 (k : Int)]] u fun e w' => e = .returned (.bool (hb t k 5)) ∧ Below u.heap.size u w' from fun u h => (noEdge_any _ n c k t u h hk))
        have hal : Below wr.heap.size wr (wr.alloc (.cells #[.int .i64 32, .int .i64 32, .func (.func 81) #[] #[]] 108)) := (Below.refl _ _).alloc (Nat.le_refl _) _
        have hbx : (wr.alloc (.cells #[.int .i64 32, .int .i64 32, .func (.func 81) #[] #[]] 108)).cell? ⟨wr.heap.size, 0, none⟩ = some (.int .i64 32) := (Blk.new wr _ [.int .i64 32, .int .i64 32, .func (.func 81) #[] #[]]).cell 0
        have HBX := Lib.hid hbx
        have HAL := Lib.hid hal
        have HRA := Lib.hid ((HD.out.below hal).more hal.size)
        have hsl : wr.heap.size < (wr.alloc (.cells #[.int .i64 32, .int .i64 32, .func (.func 81) #[] #[]] 108)).heap.size := by simp
        have HSL := Lib.hid hsl
        clear hbx hal hsl
        have horj : bits .or .i64 ((sumB (hb t k) 5 : Nat) : Int) 32 = ((sumB (hb t k) 5 : Nat) : Int) + 32 := by have := or_low 5 (by omega) (sumB (hb t k) 5) (sumB_lt _ _); simpa using this
        cases hv : hb t k 5
        all_goals
          go_wp2_with (go_at_call 81; refine (HC.out _ HRA.out).mono ?_; rintro e w2 ⟨rfl, hb2⟩; rw [hv]; have hx : w2.cell? ⟨wr.heap.size, 0, none⟩ = some (.int .i64 32) := (hb2.cell (p := ⟨wr.heap.size, 0, none⟩) HSL.out).trans HBX.out)
          have hbe := HBEL.out.trans ((HAL.out.trans (hb2.mono (Nat.le_of_lt HSL.out))).mono hszr)
          exact ⟨⟨6, by omega, by go_num, by rw [HST.out, hv]; (first | rfl | (simp; done) | (simp [horj]; done)), hbe⟩, by simp [intOf]⟩
    · obtain rfl : j = 6 := by omega
      go_wp2_with fail
      go_ret
      exact ⟨ret_int HAT.out.symm, hbw⟩
end Go.Proofs.Ytjeljlgjkjeloaa
/- heronref02: word, At. -/
namespace Go.Proofs.Ytjeljlgjkjeloaa
open Go.RowKit Go.Proofs.Ytjeljlgjkjeloaa.Mach

theorem refWord2_any (r : Int) (w : World) :
    Calls Try.prog 56 #[.int .i64 r] w fun e w' => e = .returned (.bool (word r)) ∧ w = w' := by
  go_enter Try.func56, Try.ntmps56
  go_wp2
  all_goals go_ret
  all_goals exact ⟨ret_bool (by unfold word; rw [Bool.eq_iff_iff]; simp; try omega), rfl⟩

theorem and_bit : ∀ j < 6, ∀ s < 64, decide (0 < bits .and .i64 ((s : Nat) : Int) ((2 ^ j : Nat) : Int)) = decide (((s : Nat) : Int) / ((2 ^ j : Nat) : Int) % 2 = 1) := by decide +kernel
theorem atBits_eq (t : List Int) (k : Nat) : atBits t k = (if hb t k 0 then 1 else 0) + (if hb t k 1 then 2 else 0) + (if hb t k 2 then 4 else 0) + (if hb t k 3 then 8 else 0) + (if hb t k 4 then 16 else 0) + (if hb t k 5 then 32 else 0) := by
  simp only [atBits, sumB]
  repeat' split
  all_goals simp
/-- The bits by what is known of the place. -/
theorem atBits_of {t : List Int} {k : Nat} {a b : Bool} {x y : Bool} (f1 : decide (k = 0) = a) (f2 : decide (k = t.length) = b) (f3 : (a || t.getD (k - 1) 0 == 10) = x) (f4 : (b || t.getD k 0 == 10) = y) :
    atBits t k = (if a then 1 else 0) + (if b then 2 else 0) + (if x then 4 else 0) + (if y then 8 else 0) + (if ((!a && word (t.getD (k - 1) 0)) != (!b && word (t.getD k 0))) then 16 else 32) := by
  rw [atBits_eq]
  simp only [hb, f1, f2, f3, f4]
  cases ((!a && word (t.getD (k - 1) 0)) != (!b && word (t.getD k 0))) <;> simp

set_option maxRecDepth 100000 in
set_option maxHeartbeats 2000000 in
theorem refAt_any (A : Option Addr) (n c k B : Nat) (t : List Int) (w : World) (hr : Reads w B 1 A n c (t.map (Value.int .i64))) (hk : k ≤ n) :
    Calls Try.prog 35 #[.slice A n c, .int .i64 (k : Int)] w fun e w' => e = .returned (.int .i64 (atBits t k)) ∧ w = w' := by
  have hnc := hr.le
  have hcap := hr.cap
  have hl : t.length = n := by have := hr.len; simpa using this
  have HL := Lib.hid hl
  have HT := Lib.hid (show ∀ b off, A = some ⟨b, off, none⟩ → ∀ j, j < n → w.cell? ⟨b, off + j, none⟩ = some (.int .i64 (t.getD j 0)) from fun b off e j hj => by
    rw [e] at hr
    exact text_at hr hj)
  obtain ⟨za, hza⟩ : ∃ z, z = t.getD (k - 1) 0 := ⟨_, rfl⟩
  obtain ⟨zb, hzb⟩ : ∃ z, z = t.getD k 0 := ⟨_, rfl⟩
  have HZA := Lib.hid hza
  have HZB := Lib.hid hzb
  have HPOS := Lib.hid (show 0 < n → ∃ b off, A = some ⟨b, off, none⟩ from fun h => by obtain ⟨b, off, e, _⟩ := hr.at_ h; exact ⟨b, off, e⟩)
  have HEQ := Lib.hid (show ∀ a b x y, decide (k = 0) = a → decide (k = n) = b → (a || za == 10) = x → (b || zb == 10) = y → atBits t k = (if a then 1 else 0) + (if b then 2 else 0) + (if x then 4 else 0) + (if y then 8 else 0) + (if ((!a && word za) != (!b && word zb)) then 16 else 32) from fun a b x y f1 f2 f3 f4 => by
    rw [hza, hzb] at *
    exact atBits_of f1 (by rw [hl]; exact f2) f3 f4)
  clear hr hl hza hzb
  obtain ⟨E, hE⟩ : ∃ E, E = atBits t k := ⟨_, rfl⟩
  rw [← hE] at HEQ ⊢
  clear hE
  by_cases g1 : k = 0
  · by_cases g2 : k = n
    · subst g1
      obtain rfl : n = 0 := g2.symm
      have HR2 := HEQ.out true true true true rfl rfl rfl rfl
      simp only [Bool.not_true, Bool.false_and, bne_self_eq_false, if_true, Bool.false_eq_true, if_false] at HR2
      subst HR2
      clear HEQ
      go_enter Try.func35, Try.ntmps35
      go_wp2_with fail
      go_ret
      exact ⟨rfl, rfl⟩
    · subst g1
      have hlt : 0 < n := by omega
      obtain ⟨b, off, rfl⟩ := HPOS.out hlt
      have hz2 : w.cell? ⟨b, off, none⟩ = some (.int .i64 zb) := by have := HT.out b off rfl 0 hlt; rw [HZB.out]; simpa using this
      have HR2 := Lib.hid (fun y h => HEQ.out true false true y rfl (decide_eq_false g2) rfl h)
      clear g2 HEQ
      go_enter Try.func35, Try.ntmps35
      cases hw : word zb <;> cases hy : zb == 10
      all_goals
        have hR := HR2.out _ (by rw [hy])
        simp only [hw, hy] at hR
        go_wp2_with (go_at_call 56; refine (refWord2_any _ _).mono ?_; rintro e w' ⟨rfl, rfl⟩; rw [hw])
        go_ret
        exact ⟨ret_int (by rw [hR]; simp), rfl⟩
  · obtain ⟨b, off, rfl⟩ := HPOS.out (by omega)
    have hj1 : ((k : Int) - 1).toNat = k - 1 := by omega
    have hj2 : 0 ≤ (k : Int) - 1 := by omega
    have hj3 : (k : Int) - 1 < n := by omega
    have hy2 : w.cell? ⟨b, off + (k - 1), none⟩ = some (.int .i64 za) := by rw [HZA.out]; exact HT.out b off rfl (k - 1) (by omega)
    have hk0 : 0 < k := by omega
    by_cases g2 : k = n
    · have h2 : ((k : Int) == (n : Int)) = true := by rw [beq_iff_eq]; omega
      have HR2 := Lib.hid (fun x h => HEQ.out false true x true (decide_eq_false g1) (decide_eq_true g2) h rfl)
      clear g1 g2 HEQ
      go_enter Try.func35, Try.ntmps35
      cases hw : word za <;> cases hy : za == 10
      all_goals
        have hR := HR2.out _ (by rw [hy])
        simp only [hw, hy] at hR
        go_wp2_with (go_at_call 56; refine (refWord2_any _ _).mono ?_; rintro e w' ⟨rfl, rfl⟩; rw [hw])
        go_ret
        exact ⟨ret_int (by rw [hR]; simp), rfl⟩
    · have hlt : k < n := by omega
      have hz2 : w.cell? ⟨b, off + k, none⟩ = some (.int .i64 zb) := by rw [HZB.out]; exact HT.out b off rfl k hlt
      have h2 : ((k : Int) == (n : Int)) = false := by rw [beq_eq_false_iff_ne]; omega
      have HR2 := Lib.hid (fun x y h h' => HEQ.out false false x y (decide_eq_false g1) (decide_eq_false g2) h h')
      clear g1 g2 HEQ
      go_enter Try.func35, Try.ntmps35
      cases hw : word za <;> cases hy : za == 10 <;> cases hw' : word zb <;> cases hy' : zb == 10
      all_goals
        have hR := HR2.out _ _ (by rw [hy]) (by rw [hy'])
        simp only [hw, hy, hw', hy'] at hR
        go_wp2_with (go_at_call 56; refine (refWord2_any _ _).mono ?_; rintro e w' ⟨rfl, rfl⟩; first | rw [hw] | rw [hw'])
        go_ret
        exact ⟨ret_int (by rw [hR]; simp), rfl⟩
end Go.Proofs.Ytjeljlgjkjeloaa
