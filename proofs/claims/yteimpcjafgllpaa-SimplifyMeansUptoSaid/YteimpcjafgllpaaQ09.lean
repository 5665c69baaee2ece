/- look.At -/
import Derived.Laws.EntriesVeiled
import Derived.Test.YteimpcjafgllpaaQ08
namespace Go.Proofs.Yteimpcjafgllpaa
open Go.RowKit Go.Proofs.Yteimpcjafgllpaa.Mach
section
variable (A : Option Addr) (n c k : Nat) (t : List Int) (w : World)
set_option maxRecDepth 100000 in
set_option maxHeartbeats 2000000 in
theorem edge_any (hr : Reads w w.heap.size 1 A n c (t.map (Value.int .i64))) (hk : k ≤ n) : Calls Try.prog 85 #[.agg #[.slice A n c, .int .i64 (k : Int)]] w fun e w' => e = .returned (.bool (hb t k 4)) ∧ Below w.heap.size w w' := by
  have hb1 : Below w.heap.size w (w.alloc (.cells #[.slice A n c, .int .i64 (k : Int)] 119)) := (Below.refl _ _).alloc (Nat.le_refl _) _
  have hnc := hr.le
  have hcap := hr.cap
  have hl : t.length = n := by have := hr.len; simpa using this
  obtain ⟨B, hB⟩ : ∃ B, B = w.heap.size := ⟨_, rfl⟩
  have HR := Lib.hid hr
  have hx0 : (w.alloc (.cells #[.slice A n c, .int .i64 (k : Int)] 119)).cell? ⟨w.heap.size, 0, none⟩ = some (.slice A n c) := (Blk.new w _ [.slice A n c, .int .i64 (k : Int)]).cell 0
  have hx1 : (w.alloc (.cells #[.slice A n c, .int .i64 (k : Int)] 119)).cell? ⟨w.heap.size, 1, none⟩ = some (.int .i64 (k : Int)) := (Blk.new w _ [.slice A n c, .int .i64 (k : Int)]).cell 1
  have hsz : w.heap.size < (w.alloc (.cells #[.slice A n c, .int .i64 (k : Int)] 119)).heap.size := by simp
  have HX0 := Lib.hid hx0
  have HX1 := Lib.hid hx1
  have HSZ := Lib.hid hsz
  have HB1 := Lib.hid hb1
  have HL := Lib.hid hl
  -- what the two loads give, wherever they are run
  have H0 := Lib.hid (show ∀ u, Below (w.alloc (.cells #[.slice A n c, .int .i64 (k : Int)] 119)).heap.size (w.alloc (.cells #[.slice A n c, .int .i64 (k : Int)] 119)) u → u.cell? ⟨w.heap.size, 0, none⟩ = some (.slice A n c) ∧ u.cell? ⟨w.heap.size, 1, none⟩ = some (.int .i64 (k : Int)) from fun u h => ⟨(h.cell (p := ⟨w.heap.size, 0, none⟩) hsz).trans hx0, (h.cell (p := ⟨w.heap.size, 1, none⟩) hsz).trans hx1⟩)
  have HT := Lib.hid (show ∀ u b off, A = some ⟨b, off, none⟩ → Below (w.alloc (.cells #[.slice A n c, .int .i64 (k : Int)] 119)).heap.size (w.alloc (.cells #[.slice A n c, .int .i64 (k : Int)] 119)) u → ∀ j, j < n → u.cell? ⟨b, off + j, none⟩ = some (.int .i64 (t.getD j 0)) from fun u b off e h j hj => by
    have h2 := hr.below (hb1.trans (h.mono (Nat.le_of_lt hsz)))
    rw [e] at h2
    exact text_at h2 hj)
  have HF := Lib.hid (fun u => first_any A n c k u)
  have HLA := Lib.hid (fun u => last_any A n c k t u hl)
  have hW : ∀ a, word a = word a := fun _ => rfl
  obtain ⟨za, hza⟩ : ∃ z, z = t.getD (k - 1) 0 := ⟨_, rfl⟩
  obtain ⟨zb, hzb⟩ : ∃ z, z = t.getD k 0 := ⟨_, rfl⟩
  have HZA := Lib.hid hza
  have HZB := Lib.hid hzb
  have HHB := Lib.hid (show hb t k 4 = ((!decide (k = 0) && word za) != (!decide (k = n) && word zb)) from by rw [hza, hzb, ← hl]; rfl)
  have HPOS := Lib.hid (show 0 < n → ∃ b off, A = some ⟨b, off, none⟩ from fun h => by obtain ⟨b, off, e, _⟩ := hr.at_ h; exact ⟨b, off, e⟩)
  clear hr hx0 hx1 hsz hb1 hl hW hza hzb hB B
  by_cases g1 : k = 0
  · by_cases g2 : k = n
    · have h1 : decide (k = 0) = true := decide_eq_true g1
      have h2 : decide (k = t.length) = true := decide_eq_true (by rw [HL.out]; exact g2)
      have h3 : decide (k = n) = true := decide_eq_true g2
      have HR2 := Lib.hid (show hb t k 4 = false from by rw [HHB.out, h1, h3]; simp)
      clear g1 g2 h3
      go_enter Try.func85, Try.ntmps85
      go_wp2_with (first | (go_at_call 81; refine (HF.out _).mono ?_; rintro e w1 ⟨rfl, hb2⟩; rw [h1]; have hy0 : w1.cell? ⟨w.heap.size, 0, none⟩ = some (.slice A n c) := (H0.out w1 hb2).1; have hy1 : w1.cell? ⟨w.heap.size, 1, none⟩ = some (.int .i64 (k : Int)) := (H0.out w1 hb2).2) | (go_at_call 82; refine (HLA.out _).mono ?_; rintro e w2 ⟨rfl, hb3⟩; rw [h2]; have hq2 := hb2.trans (hb3.mono hb2.size); have hz0 : w2.cell? ⟨w.heap.size, 0, none⟩ = some (.slice A n c) := (H0.out w2 hq2).1; have hz1 : w2.cell? ⟨w.heap.size, 1, none⟩ = some (.int .i64 (k : Int)) := (H0.out w2 hq2).2) | (go_at_call 88; refine (word_any _ _).mono ?_; rintro e w' ⟨rfl, rfl⟩))
      go_ret
      exact ⟨ret_bool (by first | exact HR2.out.symm | (rw [HR2.out]; simp; done)), HB1.out.trans ((hb2.trans (hb3.mono hb2.size)).mono (Nat.le_of_lt HSZ.out))⟩
    · have h1 : decide (k = 0) = true := decide_eq_true g1
      have h2 : decide (k = t.length) = false := decide_eq_false (by rw [HL.out]; exact g2)
      obtain ⟨b, off, rfl⟩ := HPOS.out (by omega)
      have hlt : k < n := by omega
      have h3 : decide (k = n) = false := decide_eq_false g2
      have HR2 := Lib.hid (show hb t k 4 = word zb from by rw [HHB.out, h1, h3]; simp)
      clear g1 g2 h3
      go_enter Try.func85, Try.ntmps85
      go_wp2_with (first | (go_at_call 81; refine (HF.out _).mono ?_; rintro e w1 ⟨rfl, hb2⟩; rw [h1]; have hy0 : w1.cell? ⟨w.heap.size, 0, none⟩ = some (.slice (some ⟨b, off, none⟩) n c) := (H0.out w1 hb2).1; have hy1 : w1.cell? ⟨w.heap.size, 1, none⟩ = some (.int .i64 (k : Int)) := (H0.out w1 hb2).2) | (go_at_call 82; refine (HLA.out _).mono ?_; rintro e w2 ⟨rfl, hb3⟩; rw [h2]; have hq2 := hb2.trans (hb3.mono hb2.size); have hz0 : w2.cell? ⟨w.heap.size, 0, none⟩ = some (.slice (some ⟨b, off, none⟩) n c) := (H0.out w2 hq2).1; have hz1 : w2.cell? ⟨w.heap.size, 1, none⟩ = some (.int .i64 (k : Int)) := (H0.out w2 hq2).2; have hz2 : w2.cell? ⟨b, off + k, none⟩ = some (.int .i64 zb) := (by rw [HZB.out]; exact HT.out w2 b off rfl hq2 k (by omega))) | (go_at_call 88; refine (word_any _ _).mono ?_; rintro e w' ⟨rfl, rfl⟩))
      go_ret
      exact ⟨ret_bool (by first | exact HR2.out.symm | (rw [HR2.out]; simp; done)), HB1.out.trans ((hb2.trans (hb3.mono hb2.size)).mono (Nat.le_of_lt HSZ.out))⟩
  · by_cases g2 : k = n
    · have h1 : decide (k = 0) = false := decide_eq_false g1
      have h2 : decide (k = t.length) = true := decide_eq_true (by rw [HL.out]; exact g2)
      obtain ⟨b, off, rfl⟩ := HPOS.out (by omega)
      have hj1 : ((k : Int) - 1).toNat = k - 1 := by omega
      have hj2 : 0 ≤ (k : Int) - 1 := by omega
      have hj3 : (k : Int) - 1 < n := by omega
      have h3 : decide (k = n) = true := decide_eq_true g2
      have HR2 := Lib.hid (show hb t k 4 = word za from by rw [HHB.out, h1, h3]; simp)
      clear g1 g2 h3
      go_enter Try.func85, Try.ntmps85
      go_wp2_with (first | (go_at_call 81; refine (HF.out _).mono ?_; rintro e w1 ⟨rfl, hb2⟩; rw [h1]; have hy0 : w1.cell? ⟨w.heap.size, 0, none⟩ = some (.slice (some ⟨b, off, none⟩) n c) := (H0.out w1 hb2).1; have hy1 : w1.cell? ⟨w.heap.size, 1, none⟩ = some (.int .i64 (k : Int)) := (H0.out w1 hb2).2; have hy2 : w1.cell? ⟨b, off + (k - 1), none⟩ = some (.int .i64 za) := (by rw [HZA.out]; exact HT.out w1 b off rfl hb2 (k - 1) (by omega))) | (go_at_call 82; refine (HLA.out _).mono ?_; rintro e w2 ⟨rfl, hb3⟩; rw [h2]; have hq2 := hb2.trans (hb3.mono hb2.size); have hz0 : w2.cell? ⟨w.heap.size, 0, none⟩ = some (.slice (some ⟨b, off, none⟩) n c) := (H0.out w2 hq2).1; have hz1 : w2.cell? ⟨w.heap.size, 1, none⟩ = some (.int .i64 (k : Int)) := (H0.out w2 hq2).2) | (go_at_call 88; refine (word_any _ _).mono ?_; rintro e w' ⟨rfl, rfl⟩))
      go_ret
      exact ⟨ret_bool (by first | exact HR2.out.symm | (rw [HR2.out]; simp; done)), HB1.out.trans ((hb2.trans (hb3.mono hb2.size)).mono (Nat.le_of_lt HSZ.out))⟩
    · have h1 : decide (k = 0) = false := decide_eq_false g1
      have h2 : decide (k = t.length) = false := decide_eq_false (by rw [HL.out]; exact g2)
      obtain ⟨b, off, rfl⟩ := HPOS.out (by omega)
      have hj1 : ((k : Int) - 1).toNat = k - 1 := by omega
      have hj2 : 0 ≤ (k : Int) - 1 := by omega
      have hj3 : (k : Int) - 1 < n := by omega
      have hlt : k < n := by omega
      have h3 : decide (k = n) = false := decide_eq_false g2
      have HR2 := Lib.hid (show hb t k 4 = (word za != word zb) from by rw [HHB.out, h1, h3]; simp)
      clear g1 g2 h3
      go_enter Try.func85, Try.ntmps85
      go_wp2_with (first | (go_at_call 81; refine (HF.out _).mono ?_; rintro e w1 ⟨rfl, hb2⟩; rw [h1]; have hy0 : w1.cell? ⟨w.heap.size, 0, none⟩ = some (.slice (some ⟨b, off, none⟩) n c) := (H0.out w1 hb2).1; have hy1 : w1.cell? ⟨w.heap.size, 1, none⟩ = some (.int .i64 (k : Int)) := (H0.out w1 hb2).2; have hy2 : w1.cell? ⟨b, off + (k - 1), none⟩ = some (.int .i64 za) := (by rw [HZA.out]; exact HT.out w1 b off rfl hb2 (k - 1) (by omega))) | (go_at_call 82; refine (HLA.out _).mono ?_; rintro e w2 ⟨rfl, hb3⟩; rw [h2]; have hq2 := hb2.trans (hb3.mono hb2.size); have hz0 : w2.cell? ⟨w.heap.size, 0, none⟩ = some (.slice (some ⟨b, off, none⟩) n c) := (H0.out w2 hq2).1; have hz1 : w2.cell? ⟨w.heap.size, 1, none⟩ = some (.int .i64 (k : Int)) := (H0.out w2 hq2).2; have hz2 : w2.cell? ⟨b, off + k, none⟩ = some (.int .i64 zb) := (by rw [HZB.out]; exact HT.out w2 b off rfl hq2 k (by omega))) | (go_at_call 88; refine (word_any _ _).mono ?_; rintro e w' ⟨rfl, rfl⟩))
      go_ret
      exact ⟨ret_bool (by first | exact HR2.out.symm | (rw [HR2.out]; simp; done)), HB1.out.trans ((hb2.trans (hb3.mono hb2.size)).mono (Nat.le_of_lt HSZ.out))⟩
set_option maxHeartbeats 1000000 in
theorem noEdge_any (hr : Reads w w.heap.size 1 A n c (t.map (Value.int .i64))) (hk : k ≤ n) : Calls Try.prog 86 #[.agg #[.slice A n c, .int .i64 (k : Int)]] w fun e w' => e = .returned (.bool (hb t k 5)) ∧ Below w.heap.size w w' := by
  have hb1 : Below w.heap.size w (w.alloc (.cells #[.slice A n c, .int .i64 (k : Int)] 119)) := (Below.refl _ _).alloc (Nat.le_refl _) _
  have HE := Lib.hid (edge_any A n c k t _ ((hr.below hb1).more hb1.size) hk)
  have hs := hb1.size
  have HH := Lib.hid (show hb t k 5 = !(hb t k 4) from rfl)
  clear hr
  go_enter Try.func86, Try.ntmps86
  go_wp2_with fail
  refine HE.out.mono ?_
  rintro e w1 ⟨rfl, hb2⟩
  go_wp2_with fail
  go_ret
  exact ⟨ret_bool HH.out.symm, hb1.trans (hb2.mono hs)⟩
end
/-- The rows of At. -/
def rowsV : List Value := [.int .i64 1, .int .i64 2, .func (.func 81) #[] #[], .int .i64 2, .int .i64 1, .func (.func 82) #[] #[], .int .i64 4, .int .i64 8, .func (.func 83) #[] #[],
  .int .i64 8, .int .i64 4, .func (.func 84) #[] #[], .int .i64 16, .int .i64 16, .func (.func 85) #[] #[], .int .i64 32, .int .i64 32, .func (.func 86) #[] #[]]
set_option maxHeartbeats 1000000 in
theorem rows_any (w : World) : Calls Try.prog 70 #[] w fun e w' => e = .returned (.slice (some ⟨w.heap.size, 0, none⟩) 6 6) ∧ Blk w' w.heap.size 117 rowsV ∧ Below w.heap.size w w' := by
  go_enter Try.func70, Try.ntmps70
  go_wp2_with fail
  go_ret
  exact ⟨rfl, Blk.new w _ rowsV, (Below.refl _ _).alloc (Nat.le_refl _) _⟩
theorem sumB_step {t : List Int} {k j : Nat} : ((sumB (hb t k) (j + 1) : Nat) : Int) = if hb t k j then ((sumB (hb t k) j + 2 ^ j : Nat) : Int) else ((sumB (hb t k) j : Nat) : Int) := by
  rw [sumB]; split <;> simp
set_option maxRecDepth 100000 in
set_option maxHeartbeats 4000000 in
theorem at_any (A : Option Addr) (n c k : Nat) (t : List Int) (w : World) (hr : Reads w w.heap.size 1 A n c (t.map (Value.int .i64))) (hk : k ≤ n) :
    Calls Try.prog 49 #[.slice A n c, .int .i64 (k : Int)] w fun e w' => e = .returned (.int .i64 (atBits t k)) ∧ Below w.heap.size w w' := by
  have hl : t.length = n := by have := hr.len; simpa using this
  have HL := Lib.hid hl
  have HR := Lib.hid hr
  have hcap := hr.cap
  have hnc := hr.le
  have HAT := Lib.hid (show atBits t k = ((sumB (hb t k) 6 : Nat) : Int) from rfl)
  clear hl hr
  go_enter Try.func49, Try.ntmps49
  go_wp2_with fail
  refine (rows_any w).mono ?_
  rintro e w1 ⟨rfl, hbk, hb1⟩
  have HBK := Lib.hid hbk
  have hR1 := hbk.lt
  clear hbk
  go_wp2_with fail
  go_loopw [5, 18] (fun b p wr => ∃ j : Nat, j ≤ 6 ∧ p = .int .i64 j ∧ b = .int .i64 ((sumB (hb t k) j : Nat) : Int) ∧ Below w1.heap.size w1 wr) (fun _ p _ => 6 - (intOf p).toNat)
  case atStart => exact ⟨0, by omega, rfl, rfl, Below.refl _ _⟩
  case round =>
    obtain ⟨j, hj6, rfl, rfl, hbel⟩ := hrel
    have hszr := hbel.size
    have hbw : Below w.heap.size w wr := hb1.trans (hbel.mono hb1.size)
    have hblk := HBK.out.below hbel hR1
    have hrd := (HR.out.below hbw).more hbw.size
    by_cases hlt : j < 6
    · have hst := sumB_step (t := t) (k := k) (j := j)
      have HB := Lib.hid hblk
      have HD := Lib.hid hrd
      have HST := Lib.hid hst
      have HBEL := Lib.hid hbel
      clear hblk hrd hst
      rcases (show j = 0 ∨ j = 1 ∨ j = 2 ∨ j = 3 ∨ j = 4 ∨ j = 5 from by omega) with rfl | rfl | rfl | rfl | rfl | rfl
      · have c0 := HB.out.cell 0
        have c1 := HB.out.cell 1
        have c2 := HB.out.cell 2
        simp only [rowsV, List.getElem?_cons_zero, List.getElem?_cons_succ] at c0 c1 c2
        have HC := Lib.hid (show ∀ u : World, Reads u u.heap.size 1 A n c (t.map (Value.int .i64)) → Calls Try.prog 81 #[.agg #[.slice A n c, .int .i64 (k : Int)]] u fun e w' => e = .returned (.bool (hb t k 0)) ∧ Below u.heap.size u w' from fun u h => (first_any _ n c k u))
        have hal : Below wr.heap.size wr (wr.alloc (.cells #[.int .i64 1, .int .i64 2, .func (.func 81) #[] #[]] 117)) := (Below.refl _ _).alloc (Nat.le_refl _) _
        have hbx : (wr.alloc (.cells #[.int .i64 1, .int .i64 2, .func (.func 81) #[] #[]] 117)).cell? ⟨wr.heap.size, 0, none⟩ = some (.int .i64 1) := (Blk.new wr _ [.int .i64 1, .int .i64 2, .func (.func 81) #[] #[]]).cell 0
        have HBX := Lib.hid hbx
        have HAL := Lib.hid hal
        have HRA := Lib.hid ((HD.out.below hal).more hal.size)
        have hsl : wr.heap.size < (wr.alloc (.cells #[.int .i64 1, .int .i64 2, .func (.func 81) #[] #[]] 117)).heap.size := by simp
        have HSL := Lib.hid hsl
        clear hbx hal hsl
        have horj : bits .or .i64 ((sumB (hb t k) 0 : Nat) : Int) 1 = ((sumB (hb t k) 0 : Nat) : Int) + 1 := by have := or_low 0 (by omega) (sumB (hb t k) 0) (sumB_lt _ _); simpa using this
        cases hv : hb t k 0
        all_goals
          go_wp2_with (go_at_call 81; refine (HC.out _ HRA.out).mono ?_; rintro e w2 ⟨rfl, hb2⟩; rw [hv]; have hx : w2.cell? ⟨wr.heap.size, 0, none⟩ = some (.int .i64 1) := (hb2.cell (p := ⟨wr.heap.size, 0, none⟩) HSL.out).trans HBX.out)
          have hbe := HBEL.out.trans ((HAL.out.trans (hb2.mono (Nat.le_of_lt HSL.out))).mono hszr)
          exact ⟨⟨1, by omega, by go_num, by rw [HST.out, hv]; (first | rfl | (simp; done) | (simp [horj]; done)), hbe⟩, by simp [intOf]⟩
      · have c0 := HB.out.cell 3
        have c1 := HB.out.cell 4
        have c2 := HB.out.cell 5
        simp only [rowsV, List.getElem?_cons_zero, List.getElem?_cons_succ] at c0 c1 c2
        have HC := Lib.hid (show ∀ u : World, Reads u u.heap.size 1 A n c (t.map (Value.int .i64)) → Calls Try.prog 82 #[.agg #[.slice A n c, .int .i64 (k : Int)]] u fun e w' => e = .returned (.bool (hb t k 1)) ∧ Below u.heap.size u w' from fun u h => (last_any _ n c k t u HL.out))
        have hal : Below wr.heap.size wr (wr.alloc (.cells #[.int .i64 2, .int .i64 1, .func (.func 82) #[] #[]] 117)) := (Below.refl _ _).alloc (Nat.le_refl _) _
        have hbx : (wr.alloc (.cells #[.int .i64 2, .int .i64 1, .func (.func 82) #[] #[]] 117)).cell? ⟨wr.heap.size, 0, none⟩ = some (.int .i64 2) := (Blk.new wr _ [.int .i64 2, .int .i64 1, .func (.func 82) #[] #[]]).cell 0
        have HBX := Lib.hid hbx
        have HAL := Lib.hid hal
        have HRA := Lib.hid ((HD.out.below hal).more hal.size)
        have hsl : wr.heap.size < (wr.alloc (.cells #[.int .i64 2, .int .i64 1, .func (.func 82) #[] #[]] 117)).heap.size := by simp
        have HSL := Lib.hid hsl
        clear hbx hal hsl
        have horj : bits .or .i64 ((sumB (hb t k) 1 : Nat) : Int) 2 = ((sumB (hb t k) 1 : Nat) : Int) + 2 := by have := or_low 1 (by omega) (sumB (hb t k) 1) (sumB_lt _ _); simpa using this
        cases hv : hb t k 1
        all_goals
          go_wp2_with (go_at_call 82; refine (HC.out _ HRA.out).mono ?_; rintro e w2 ⟨rfl, hb2⟩; rw [hv]; have hx : w2.cell? ⟨wr.heap.size, 0, none⟩ = some (.int .i64 2) := (hb2.cell (p := ⟨wr.heap.size, 0, none⟩) HSL.out).trans HBX.out)
          have hbe := HBEL.out.trans ((HAL.out.trans (hb2.mono (Nat.le_of_lt HSL.out))).mono hszr)
          exact ⟨⟨2, by omega, by go_num, by rw [HST.out, hv]; (first | rfl | (simp; done) | (simp [horj]; done)), hbe⟩, by simp [intOf]⟩
      · have c0 := HB.out.cell 6
        have c1 := HB.out.cell 7
        have c2 := HB.out.cell 8
        simp only [rowsV, List.getElem?_cons_zero, List.getElem?_cons_succ] at c0 c1 c2
        have HC := Lib.hid (show ∀ u : World, Reads u u.heap.size 1 A n c (t.map (Value.int .i64)) → Calls Try.prog 83 #[.agg #[.slice A n c, .int .i64 (k : Int)]] u fun e w' => e = .returned (.bool (hb t k 2)) ∧ Below u.heap.size u w' from fun u h => (begin_any _ n c k t u h hk))
        have hal : Below wr.heap.size wr (wr.alloc (.cells #[.int .i64 4, .int .i64 8, .func (.func 83) #[] #[]] 117)) := (Below.refl _ _).alloc (Nat.le_refl _) _
        have hbx : (wr.alloc (.cells #[.int .i64 4, .int .i64 8, .func (.func 83) #[] #[]] 117)).cell? ⟨wr.heap.size, 0, none⟩ = some (.int .i64 4) := (Blk.new wr _ [.int .i64 4, .int .i64 8, .func (.func 83) #[] #[]]).cell 0
        have HBX := Lib.hid hbx
        have HAL := Lib.hid hal
        have HRA := Lib.hid ((HD.out.below hal).more hal.size)
        have hsl : wr.heap.size < (wr.alloc (.cells #[.int .i64 4, .int .i64 8, .func (.func 83) #[] #[]] 117)).heap.size := by simp
        have HSL := Lib.hid hsl
        clear hbx hal hsl
        have horj : bits .or .i64 ((sumB (hb t k) 2 : Nat) : Int) 4 = ((sumB (hb t k) 2 : Nat) : Int) + 4 := by have := or_low 2 (by omega) (sumB (hb t k) 2) (sumB_lt _ _); simpa using this
        cases hv : hb t k 2
        all_goals
          go_wp2_with (go_at_call 83; refine (HC.out _ HRA.out).mono ?_; rintro e w2 ⟨rfl, hb2⟩; rw [hv]; have hx : w2.cell? ⟨wr.heap.size, 0, none⟩ = some (.int .i64 4) := (hb2.cell (p := ⟨wr.heap.size, 0, none⟩) HSL.out).trans HBX.out)
          have hbe := HBEL.out.trans ((HAL.out.trans (hb2.mono (Nat.le_of_lt HSL.out))).mono hszr)
          exact ⟨⟨3, by omega, by go_num, by rw [HST.out, hv]; (first | rfl | (simp; done) | (simp [horj]; done)), hbe⟩, by simp [intOf]⟩
      · have c0 := HB.out.cell 9
        have c1 := HB.out.cell 10
        have c2 := HB.out.cell 11
        simp only [rowsV, List.getElem?_cons_zero, List.getElem?_cons_succ] at c0 c1 c2
        have HC := Lib.hid (show ∀ u : World, Reads u u.heap.size 1 A n c (t.map (Value.int .i64)) → Calls Try.prog 84 #[.agg #[.slice A n c, .int .i64 (k : Int)]] u fun e w' => e = .returned (.bool (hb t k 3)) ∧ Below u.heap.size u w' from fun u h => (end_any _ n c k t u h hk))
        have hal : Below wr.heap.size wr (wr.alloc (.cells #[.int .i64 8, .int .i64 4, .func (.func 84) #[] #[]] 117)) := (Below.refl _ _).alloc (Nat.le_refl _) _
        have hbx : (wr.alloc (.cells #[.int .i64 8, .int .i64 4, .func (.func 84) #[] #[]] 117)).cell? ⟨wr.heap.size, 0, none⟩ = some (.int .i64 8) := (Blk.new wr _ [.int .i64 8, .int .i64 4, .func (.func 84) #[] #[]]).cell 0
        have HBX := Lib.hid hbx
        have HAL := Lib.hid hal
        have HRA := Lib.hid ((HD.out.below hal).more hal.size)
        have hsl : wr.heap.size < (wr.alloc (.cells #[.int .i64 8, .int .i64 4, .func (.func 84) #[] #[]] 117)).heap.size := by simp
        have HSL := Lib.hid hsl
        clear hbx hal hsl
        have horj : bits .or .i64 ((sumB (hb t k) 3 : Nat) : Int) 8 = ((sumB (hb t k) 3 : Nat) : Int) + 8 := by have := or_low 3 (by omega) (sumB (hb t k) 3) (sumB_lt _ _); simpa using this
        cases hv : hb t k 3
        all_goals
          go_wp2_with (go_at_call 84; refine (HC.out _ HRA.out).mono ?_; rintro e w2 ⟨rfl, hb2⟩; rw [hv]; have hx : w2.cell? ⟨wr.heap.size, 0, none⟩ = some (.int .i64 8) := (hb2.cell (p := ⟨wr.heap.size, 0, none⟩) HSL.out).trans HBX.out)
          have hbe := HBEL.out.trans ((HAL.out.trans (hb2.mono (Nat.le_of_lt HSL.out))).mono hszr)
          exact ⟨⟨4, by omega, by go_num, by rw [HST.out, hv]; (first | rfl | (simp; done) | (simp [horj]; done)), hbe⟩, by simp [intOf]⟩
      · have c0 := HB.out.cell 12
        have c1 := HB.out.cell 13
        have c2 := HB.out.cell 14
        simp only [rowsV, List.getElem?_cons_zero, List.getElem?_cons_succ] at c0 c1 c2
        have HC := Lib.hid (show ∀ u : World, Reads u u.heap.size 1 A n c (t.map (Value.int .i64)) → Calls Try.prog 85 #[.agg #[.slice A n c, .int .i64 (k : Int)]] u fun e w' => e = .returned (.bool (hb t k 4)) ∧ Below u.heap.size u w' from fun u h => (edge_any _ n c k t u h hk))
        have hal : Below wr.heap.size wr (wr.alloc (.cells #[.int .i64 16, .int .i64 16, .func (.func 85) #[] #[]] 117)) := (Below.refl _ _).alloc (Nat.le_refl _) _
        have hbx : (wr.alloc (.cells #[.int .i64 16, .int .i64 16, .func (.func 85) #[] #[]] 117)).cell? ⟨wr.heap.size, 0, none⟩ = some (.int .i64 16) := (Blk.new wr _ [.int .i64 16, .int .i64 16, .func (.func 85) #[] #[]]).cell 0
        have HBX := Lib.hid hbx
        have HAL := Lib.hid hal
        have HRA := Lib.hid ((HD.out.below hal).more hal.size)
        have hsl : wr.heap.size < (wr.alloc (.cells #[.int .i64 16, .int .i64 16, .func (.func 85) #[] #[]] 117)).heap.size := by simp
        have HSL := Lib.hid hsl
        clear hbx hal hsl
        have horj : bits .or .i64 ((sumB (hb t k) 4 : Nat) : Int) 16 = ((sumB (hb t k) 4 : Nat) : Int) + 16 := by have := or_low 4 (by omega) (sumB (hb t k) 4) (sumB_lt _ _); simpa using this
        cases hv : hb t k 4
        all_goals
          go_wp2_with (go_at_call 85; refine (HC.out _ HRA.out).mono ?_; rintro e w2 ⟨rfl, hb2⟩; rw [hv]; have hx : w2.cell? ⟨wr.heap.size, 0, none⟩ = some (.int .i64 16) := (hb2.cell (p := ⟨wr.heap.size, 0, none⟩) HSL.out).trans HBX.out)
          have hbe := HBEL.out.trans ((HAL.out.trans (hb2.mono (Nat.le_of_lt HSL.out))).mono hszr)
          exact ⟨⟨5, by omega, by go_num, by rw [HST.out, hv]; (first | rfl | (simp; done) | (simp [horj]; done)), hbe⟩, by simp [intOf]⟩
      · have c0 := HB.out.cell 15
        have c1 := HB.out.cell 16
        have c2 := HB.out.cell 17
        simp only [rowsV, List.getElem?_cons_zero, List.getElem?_cons_succ] at c0 c1 c2
        have HC := Lib.hid (show ∀ u : World, Reads u u.heap.size 1 A n c (t.map (Value.int .i64)) → Calls Try.prog 86 #[.agg #[.slice A n c, .int .i64 (k : Int)]] u fun e w' => e = .returned (.bool (hb t k 5)) ∧ Below u.heap.size u w' from fun u h => (noEdge_any _ n c k t u h hk))
        have hal : Below wr.heap.size wr (wr.alloc (.cells #[.int .i64 32, .int .i64 32, .func (.func 86) #[] #[]] 117)) := (Below.refl _ _).alloc (Nat.le_refl _) _
        have hbx : (wr.alloc (.cells #[.int .i64 32, .int .i64 32, .func (.func 86) #[] #[]] 117)).cell? ⟨wr.heap.size, 0, none⟩ = some (.int .i64 32) := (Blk.new wr _ [.int .i64 32, .int .i64 32, .func (.func 86) #[] #[]]).cell 0
        have HBX := Lib.hid hbx
        have HAL := Lib.hid hal
        have HRA := Lib.hid ((HD.out.below hal).more hal.size)
        have hsl : wr.heap.size < (wr.alloc (.cells #[.int .i64 32, .int .i64 32, .func (.func 86) #[] #[]] 117)).heap.size := by simp
        have HSL := Lib.hid hsl
        clear hbx hal hsl
        have horj : bits .or .i64 ((sumB (hb t k) 5 : Nat) : Int) 32 = ((sumB (hb t k) 5 : Nat) : Int) + 32 := by have := or_low 5 (by omega) (sumB (hb t k) 5) (sumB_lt _ _); simpa using this
        cases hv : hb t k 5
        all_goals
          go_wp2_with (go_at_call 86; refine (HC.out _ HRA.out).mono ?_; rintro e w2 ⟨rfl, hb2⟩; rw [hv]; have hx : w2.cell? ⟨wr.heap.size, 0, none⟩ = some (.int .i64 32) := (hb2.cell (p := ⟨wr.heap.size, 0, none⟩) HSL.out).trans HBX.out)
          have hbe := HBEL.out.trans ((HAL.out.trans (hb2.mono (Nat.le_of_lt HSL.out))).mono hszr)
          exact ⟨⟨6, by omega, by go_num, by rw [HST.out, hv]; (first | rfl | (simp; done) | (simp [horj]; done)), hbe⟩, by simp [intOf]⟩
    · obtain rfl : j = 6 := by omega
      go_wp2_with fail
      go_ret
      exact ⟨ret_int HAT.out.symm, hbw⟩
end Go.Proofs.Yteimpcjafgllpaa
