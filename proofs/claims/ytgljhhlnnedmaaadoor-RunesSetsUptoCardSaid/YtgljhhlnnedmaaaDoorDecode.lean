/- runes.Decode -/
import Derived.Test.YtgljhhlnnedmaaaDoorProg
import Derived.Test.YtgljhhlnnedmaaaDoorMem
import Derived.WalkLawsBesides
import Derived.BigQuiet
import Derived.Deep.QuietTactic
import Derived.Handy
namespace Go.Proofs.YtgljhhlnnedmaaaDoor
open Go.RowKit

def leadTab : List (List Int) := [[0, 127, 1, 0, 0], [194, 223, 2, 128, 191], [224, 224, 3, 160, 191], [225, 236, 3, 128, 191], [237, 237, 3, 128, 159], [238, 239, 3, 128, 191],
  [240, 240, 4, 144, 191], [241, 243, 4, 128, 191], [244, 244, 4, 128, 143]]
def leadCells : Array Value := (leadTab.flatten.map (Value.int .i64)).toArray
def lead (k j : Nat) : Int := (leadTab.getD k []).getD j 0

/-- The table of how bytes begin a rune lies where it lies. -/
def LeadsIn (w : World) : Prop := ∃ t fr, w.heap[0]? = some (.cells leadCells t fr)

def contB (c : Int) : Bool := decide (128 ≤ c ∧ c ≤ 191)
/-- What the k-th row of the table makes of bytes. -/
def decAt (k : Nat) (b0 : Int) (rest : List Int) : Int × Int :=
  if lead k 2 = 1 then (b0, 1) else
  match rest with
  | [] => (65533, 1)
  | b1 :: r1 =>
    if b1 < lead k 3 ∨ lead k 4 < b1 then (65533, 1)
    else if lead k 2 = 2 then if contB b1 then (b0 % 32 * 64 + b1 % 64, 2) else (65533, 1)
    else match r1 with
    | [] => (65533, 1)
    | b2 :: r2 =>
      if lead k 2 = 3 then if contB b1 && contB b2 then ((b0 % 16 * 64 + b1 % 64) * 64 + b2 % 64, 3) else (65533, 1)
      else match r2 with
      | [] => (65533, 1)
      | b3 :: _ => if contB b1 && contB b2 && contB b3 then (((b0 % 8 * 64 + b1 % 64) * 64 + b2 % 64) * 64 + b3 % 64, 4) else (65533, 1)
def fits (k : Nat) (b0 : Int) : Bool := decide (lead k 0 ≤ b0 ∧ b0 ≤ lead k 1)
/-- What Decode tells. -/
def dec : List Int → Int × Int
  | [] => (0, 0)
  | b0 :: rest => match (List.range 9).find? (fits · b0) with
    | some k => decAt k b0 rest
    | none => (65533, 1)

theorem lead_index (k : Nat) (hk : k < 9) : ∀ w : World, (Instr.index 58 (.agg leadCells) (.int .i64 (k : Int))).run Tryd.prog w =
    .ok (.agg #[.int .i64 (lead k 0), .int .i64 (lead k 1), .int .i64 (lead k 2), .int .i64 (lead k 3), .int .i64 (lead k 4)]) w := by
  match k, hk with
  | 0, _ => exact fun _ => by kernel_rfl
  | 1, _ => exact fun _ => by kernel_rfl
  | 2, _ => exact fun _ => by kernel_rfl
  | 3, _ => exact fun _ => by kernel_rfl
  | 4, _ => exact fun _ => by kernel_rfl
  | 5, _ => exact fun _ => by kernel_rfl
  | 6, _ => exact fun _ => by kernel_rfl
  | 7, _ => exact fun _ => by kernel_rfl
  | 8, _ => exact fun _ => by kernel_rfl
theorem lead_bounds : ∀ k, k < 9 → 1 ≤ lead k 2 ∧ lead k 2 ≤ 4 := by decide
theorem dec_hit {k : Nat} {b0 : Int} {rest : List Int} (hk : k < 9) (hno : ∀ j, j < k → ¬ (lead j 0 ≤ b0 ∧ b0 ≤ lead j 1)) (h : lead k 0 ≤ b0 ∧ b0 ≤ lead k 1) : dec (b0 :: rest) = decAt k b0 rest := by
  have hf : (List.range 9).find? (fits · b0) = some k := by
    rw [List.find?_eq_some_iff_getElem]
    refine ⟨by simpa [fits] using h, k, by simpa using hk, by simp, fun j hj => ?_⟩
    have := hno j hj
    simp only [fits, Bool.not_eq_true', decide_eq_false_iff_not, List.getElem_range]
    exact this
  simp only [dec, hf]
theorem dec_miss {b0 : Int} {rest : List Int} (hno : ∀ j, j < 9 → ¬ (lead j 0 ≤ b0 ∧ b0 ≤ lead j 1)) : dec (b0 :: rest) = (65533, 1) := by
  have hf : (List.range 9).find? (fits · b0) = none := by
    rw [List.find?_eq_none]
    intro j hj
    have := hno j (by simpa using hj)
    simp only [fits, decide_eq_true_eq]
    exact this
  simp only [dec, hf]

theorem cont_bits : ∀ m : Nat, m < 256 → (bits .and .u8 (m : Int) 192 != 128) = !contB (m : Int) := by decide +kernel
theorem cont_yes {c : Int} (h0 : 0 ≤ c) (h1 : c ≤ 255) (h : contB c = true) : (bits .and .u8 c 192 != 128) = false := by
  obtain ⟨m, rfl⟩ := Int.eq_ofNat_of_zero_le h0
  rw [cont_bits m (by omega), h]; rfl
theorem cont_no {c : Int} (h0 : 0 ≤ c) (h1 : c ≤ 255) (h : contB c = false) : (bits .and .u8 c 192 != 128) = true := by
  obtain ⟨m, rfl⟩ := Int.eq_ofNat_of_zero_le h0
  rw [cont_bits m (by omega), h]; rfl
theorem and31 {c : Int} (h0 : 0 ≤ c) (h1 : c ≤ 255) : bits .and .i64 c 31 = c % 32 := by
  obtain ⟨m, rfl⟩ := Int.eq_ofNat_of_zero_le h0
  exact (show ∀ m : Nat, m < 256 → bits .and .i64 (m : Int) 31 = (m : Int) % 32 from by decide +kernel) m (by omega)
theorem and15 {c : Int} (h0 : 0 ≤ c) (h1 : c ≤ 255) : bits .and .i64 c 15 = c % 16 := by
  obtain ⟨m, rfl⟩ := Int.eq_ofNat_of_zero_le h0
  exact (show ∀ m : Nat, m < 256 → bits .and .i64 (m : Int) 15 = (m : Int) % 16 from by decide +kernel) m (by omega)
theorem and7 {c : Int} (h0 : 0 ≤ c) (h1 : c ≤ 255) : bits .and .i64 c 7 = c % 8 := by
  obtain ⟨m, rfl⟩ := Int.eq_ofNat_of_zero_le h0
  exact (show ∀ m : Nat, m < 256 → bits .and .i64 (m : Int) 7 = (m : Int) % 8 from by decide +kernel) m (by omega)
theorem ofInt_i64 (a : Nat) (ha : a < 9223372036854775808) : (BitVec.ofInt 64 (a : Int)).toNat = a := by
  rw [BitVec.ofInt_natCast, BitVec.toNat_ofNat]; exact Nat.mod_eq_of_lt (by omega)
theorem i64_or_nat (a b : Nat) (ha : a < 9223372036854775808) (hb : b < 9223372036854775808) : bits .or .i64 (a : Int) (b : Int) = ((a ||| b : Nat) : Int) := by
  have hx : a ||| b < 2 ^ 63 := Nat.or_lt_two_pow (by omega) (by omega)
  show IntKind.i64.wrap ((BitVec.ofInt 64 (a : Int) ||| BitVec.ofInt 64 (b : Int)).toNat : Int) = _
  rw [BitVec.toNat_or, ofInt_i64 a ha, ofInt_i64 b hb, IntKind.wrap_i64]
  omega
/-- 'r << 6 | c' -/
theorem or64 {r c : Int} (h0 : 0 ≤ r) (h1 : r ≤ 1099511627776) (c0 : 0 ≤ c) (c1 : c < 64) : bits .or .i64 (wrap64 (r * 64)) c = r * 64 + c := by
  obtain ⟨m, rfl⟩ := Int.eq_ofNat_of_zero_le h0
  obtain ⟨j, rfl⟩ := Int.eq_ofNat_of_zero_le c0
  rw [IntWalk.wrap64_in _ ⟨by omega, by omega⟩]
  have e : ((m : Int) * 64) = ((m * 64 : Nat) : Int) := by omega
  rw [e, i64_or_nat _ _ (by omega) (by omega)]
  have h : 2 ^ 6 * m + j = 2 ^ 6 * m ||| j := Nat.two_pow_add_eq_or_of_lt (by omega) m
  have e2 : m * 64 ||| j = m * 64 + j := by
    have : m * 64 = 2 ^ 6 * m := by omega
    rw [this, ← h]
  rw [e2]; omega
theorem decAt_short {k : Nat} {b0 : Int} {rest : List Int} (h1 : ¬ lead k 2 = 1) (hw : lead k 2 ≤ 4) (h : (rest.length : Int) + 1 < lead k 2) : decAt k b0 rest = (65533, 1) := by
  unfold decAt
  rw [if_neg h1]
  match rest with
  | [] => rfl
  | [b1] =>
    simp only [List.length_cons, List.length_nil] at h
    simp only []
    split
    · rfl
    · rw [if_neg (by omega)]
  | [b1, b2] =>
    simp only [List.length_cons, List.length_nil] at h
    simp only []
    split
    · rfl
    · rw [if_neg (by omega), if_neg (by omega)]
  | b1 :: b2 :: b3 :: r => simp only [List.length_cons] at h; omega
theorem decAt_low {k : Nat} {b0 b1 : Int} {r : List Int} (h1 : ¬ lead k 2 = 1) (h : b1 < lead k 3 ∨ lead k 4 < b1) : decAt k b0 (b1 :: r) = (65533, 1) := by
  simp only [decAt, if_neg h1, if_pos h]
theorem decAt_2 {k : Nat} {b0 b1 : Int} {r : List Int} (h2 : lead k 2 = 2) (h3 : lead k 3 ≤ b1) (h4 : b1 ≤ lead k 4) : decAt k b0 (b1 :: r) = if contB b1 then (b0 % 32 * 64 + b1 % 64, 2) else (65533, 1) := by
  simp [decAt, h2, Int.not_lt.2 h3, Int.not_lt.2 h4]
theorem decAt_3 {k : Nat} {b0 b1 b2 : Int} {r : List Int} (h2 : lead k 2 = 3) (h3 : lead k 3 ≤ b1) (h4 : b1 ≤ lead k 4) : decAt k b0 (b1 :: b2 :: r) = if contB b1 && contB b2 then ((b0 % 16 * 64 + b1 % 64) * 64 + b2 % 64, 3) else (65533, 1) := by
  simp [decAt, h2, Int.not_lt.2 h3, Int.not_lt.2 h4]
theorem decAt_4 {k : Nat} {b0 b1 b2 b3 : Int} {r : List Int} (h2 : lead k 2 = 4) (h3 : lead k 3 ≤ b1) (h4 : b1 ≤ lead k 4) :
    decAt k b0 (b1 :: b2 :: b3 :: r) = if contB b1 && contB b2 && contB b3 then (((b0 % 8 * 64 + b1 % 64) * 64 + b2 % 64) * 64 + b3 % 64, 4) else (65533, 1) := by
  simp [decAt, h2, Int.not_lt.2 h3, Int.not_lt.2 h4]
theorem ret_pair {a b : Int} {p : Int × Int} (h : p = (a, b)) : Ending.returned (.tuple #[.int .i64 a, .int .i64 b]) = .returned (.tuple #[.int .i64 p.1, .int .i64 p.2]) := by rw [h]

def DecodePost (bs : List Int) (B : Nat) (w : World) (e : Ending) (w' : World) : Prop := e = .returned (.tuple #[.int .i64 (dec bs).1, .int .i64 (dec bs).2]) ∧ Below B w w'

set_option maxHeartbeats 1000000 in
theorem decode_any (A : Option Addr) (n c : Nat) (bs : List Int) (w : World) (hr : Reads w w.heap.size 1 A n c (bs.map (Value.int .u8))) (hbs : ∀ b ∈ bs, 0 ≤ b ∧ b ≤ 255) (hL : LeadsIn w) :
    Calls Tryd.prog 12 #[.slice A n c] w (DecodePost bs w.heap.size w) := by
  obtain ⟨tt, fr, hL⟩ := hL
  by_cases hn : n = 0
  · subst hn
    obtain rfl : bs = [] := by have := hr.len; simpa using this
    go_enter Tryd.func12, Tryd.ntmps12
    go_wp2
    go_ret2
    exact ⟨rfl, Below.refl _ _⟩
  · obtain ⟨b, off, rfl, hb, hcell⟩ := hr.at_ (by omega)
    obtain ⟨b0, rest, rfl⟩ : ∃ b0 rest, bs = b0 :: rest := by
      cases bs with
      | nil => have := hr.len; simp at this; omega
      | cons b r => exact ⟨b, r, rfl⟩
    have hc0 : w.cell? ⟨b, off, none⟩ = some (.int .u8 b0) := hcell 0 _ rfl
    have hcap := hr.cap
    have hnc := hr.le
    clear hcell
    have hn0 : ((n : Int) == 0) = false := by rw [beq_eq_false_iff_ne]; omega
    have hn1 : 0 < n := by omega
    have hb0 := hbs b0 (by simp)
    have hb01 := hb0.1
    have hb02 := hb0.2
    clear hn hb0
    have HBS := Lib.hid hbs
    clear hbs
    obtain ⟨B, hB⟩ : ∃ B, B = w.heap.size := ⟨_, rfl⟩
    have hr1 : Reads w B 1 (some ⟨b, off, none⟩) n c ((b0 :: rest).map (Value.int .u8)) := by rw [hB]; exact hr
    rw [← hB]
    have hBs : B ≤ w.heap.size := by omega
    clear hB hr
    go_enter Tryd.func12, Tryd.ntmps12
    go_wp2_with (refine wpList_load_row rfl 58 _ rfl 0 rfl tt _ fr _ hL Tryd.underlying58 rfl (by kernel_rfl) ?_)
    go_loopw [18] (fun i wr => ∃ k : Nat, k ≤ 9 ∧ i = .int .i64 k ∧ (∀ j, j < k → ¬ (lead j 0 ≤ b0 ∧ b0 ≤ lead j 1)) ∧ Below B w wr) (fun i _ => 9 - (intOf i).toNat)
    case atStart => exact ⟨0, Nat.zero_le _, rfl, fun j hj => absurd hj (by omega), Below.refl _ _⟩
    case round =>
      obtain ⟨k, hk, rfl, hno, hbel⟩ := hrel
      have hnoH := Lib.hid hno
      clear hno
      have hsz : B ≤ wr.heap.size := by have := hbel.size; omega
      by_cases hlt : k < 9
      · have hix := lead_index k hlt
        by_cases hf0 : lead k 0 ≤ b0
        case neg =>
          go_wp2_with fail
          go_roundw
          case rel => exact ⟨k + 1, by omega, by go_num, fun j hj => by
            rcases Nat.lt_or_ge j k with h | h
            · exact hnoH.out j h
            · obtain rfl : j = k := by omega
              omega, hbel.alloc hsz _⟩
          case measure => simp [intOf]; omega
        by_cases hf1 : b0 ≤ lead k 1
        case neg =>
          go_wp2_with fail
          go_roundw
          case rel => exact ⟨k + 1, by omega, by go_num, fun j hj => by
            rcases Nat.lt_or_ge j k with h | h
            · exact hnoH.out j h
            · obtain rfl : j = k := by omega
              omega, hbel.alloc hsz _⟩
          case measure => simp [intOf]; omega
        have Hdec := Lib.hid (dec_hit (rest := rest) hlt hnoH.out ⟨hf0, hf1⟩)
        by_cases hw1 : lead k 2 = 1
        · have hw1H := Lib.hid hw1
          have hw1f : (lead k 2 == 1) = true := by simpa using hw1
          clear hw1
          go_wp2_with fail
          go_ret2
          exact ⟨ret_pair (by rw [Hdec.out]; unfold decAt; rw [if_pos hw1H.out]), hbel.alloc hsz _⟩
        have hw1f : (lead k 2 == 1) = false := by simpa using hw1
        go_wp2_with fail
        have hr2 : Reads (wr.alloc (.cells #[.int .i64 (lead k 0), .int .i64 (lead k 1), .int .i64 (lead k 2), .int .i64 (lead k 3), .int .i64 (lead k 4)] 57)) B 1 (some ⟨b, off, none⟩) n c ((b0 :: rest).map (Value.int .u8)) :=
          (hr1.below hbel).alloc hsz _
        have hbw1 : Below B w (wr.alloc (.cells #[.int .i64 (lead k 0), .int .i64 (lead k 1), .int .i64 (lead k 2), .int .i64 (lead k 3), .int .i64 (lead k 4)] 57)) := hbel.alloc hsz _
        have hx2 : (wr.alloc (.cells #[.int .i64 (lead k 0), .int .i64 (lead k 1), .int .i64 (lead k 2), .int .i64 (lead k 3), .int .i64 (lead k 4)] 57)).cell? ⟨wr.heap.size, 2, none⟩ = some (.int .i64 (lead k 2)) := by go_simp
        have hx3 : (wr.alloc (.cells #[.int .i64 (lead k 0), .int .i64 (lead k 1), .int .i64 (lead k 2), .int .i64 (lead k 3), .int .i64 (lead k 4)] 57)).cell? ⟨wr.heap.size, 3, none⟩ = some (.int .i64 (lead k 3)) := by go_simp
        have hx4 : (wr.alloc (.cells #[.int .i64 (lead k 0), .int .i64 (lead k 1), .int .i64 (lead k 2), .int .i64 (lead k 3), .int .i64 (lead k 4)] 57)).cell? ⟨wr.heap.size, 4, none⟩ = some (.int .i64 (lead k 4)) := by go_simp
        generalize wr.alloc (.cells #[.int .i64 (lead k 0), .int .i64 (lead k 1), .int .i64 (lead k 2), .int .i64 (lead k 3), .int .i64 (lead k 4)] 57) = W1 at *
        generalize wr.heap.size = X at *
        have hw12 := lead_bounds k hlt
        have hlo := hw12.1
        have hhi := hw12.2
        clear hw12
        by_cases hlen : (n : Int) < lead k 2
        · have hd : decide ((n : Int) < lead k 2) = true := by simpa using hlen
          go_quiet (fail)
          go_wp2
          go_ret2
          exact ⟨ret_pair (by rw [Hdec.out, decAt_short hw1 hhi (by have := hr1.len; simp at this; omega)]), bdrewN hbw1 _⟩
        · have hd : decide ((n : Int) < lead k 2) = false := by simpa using hlen
          have hn2 : 1 < n := by omega
          have hn2i : (1 : Int) < (n : Int) := by omega
          obtain ⟨b1, rest1, rfl⟩ : ∃ b1 rest1, rest = b1 :: rest1 := by
            cases rest with
            | nil => have := hr1.len; simp at this; omega
            | cons b r => exact ⟨b, r, rfl⟩
          have hc1 : W1.cell? ⟨b, off + 1, none⟩ = some (.int .u8 b1) := hr2.cellAt rfl
          have hb11 := (HBS.out b1 (by simp)).1
          have hb12 := (HBS.out b1 (by simp)).2
          by_cases hb1 : b1 < lead k 3
          · have hd1 : decide (b1 < lead k 3) = true := by simpa using hb1
            go_quiet (fail)
            go_wp2
            go_ret2
            exact ⟨ret_pair (by rw [Hdec.out, decAt_low hw1 (Or.inl hb1)]), bdrewN hbw1 _⟩
          · have hd1 : decide (b1 < lead k 3) = false := by simpa using hb1
            by_cases hb2 : lead k 4 < b1
            · have hd2 : decide (lead k 4 < b1) = true := by simpa using hb2
              go_quiet (fail)
              go_wp2
              go_ret2
              exact ⟨ret_pair (by rw [Hdec.out, decAt_low hw1 (Or.inr hb2)]), bdrewN hbw1 _⟩
            · have hd2 : decide (lead k 4 < b1) = false := by simpa using hb2
              go_quiet (fail)
              have hbn := bdrewN hbw1 nq
              have hg3 : lead k 3 ≤ b1 := by omega
              have hg4 : b1 ≤ lead k 4 := by omega
              have hb1H := Lib.hid hg3
              have hb2H := Lib.hid hg4
              clear hg3 hg4
              rcases (show lead k 2 = 2 ∨ lead k 2 = 3 ∨ lead k 2 = 4 from by omega) with h2 | h2 | h2
              · cases hct1 : contB b1
                · have hm1 := cont_no hb11 hb12 hct1
                  have Hc1 := Lib.hid hct1
                  clear hct1
                  go_wp2
                  go_rounds 1
                  go_ret2
                  exact ⟨ret_pair (by rw [Hdec.out, decAt_2 h2 hb1H.out hb2H.out]; simp [Hc1.out]), hbn⟩
                · have hm1 := cont_yes hb11 hb12 hct1
                  have Hc1 := Lib.hid hct1
                  clear hct1
                  go_wp2
                  go_rounds 2
                  go_quiet (fail)
                  go_wp2
                  go_ret2
                  exact ⟨ret_pair (by rw [Hdec.out, decAt_2 h2 hb1H.out hb2H.out]; simp [Hc1.out, and31 hb01 hb02, or64 (r := b0 % 32) (c := b1 % 64) (by omega) (by omega) (by omega) (by omega)]), bdrewN hbn _⟩
              · obtain ⟨b2, rest2, rfl⟩ : ∃ b2 rest2, rest1 = b2 :: rest2 := by
                  cases rest1 with
                  | nil => have := hr1.len; simp at this; omega
                  | cons b r => exact ⟨b, r, rfl⟩
                have hc2 : W1.cell? ⟨b, off + 2, none⟩ = some (.int .u8 b2) := hr2.cellAt rfl
                have hy21 := (HBS.out b2 (by simp)).1
                have hy22 := (HBS.out b2 (by simp)).2
                cases hct1 : contB b1
                · have hm1 := cont_no hb11 hb12 hct1
                  have Hc1 := Lib.hid hct1
                  clear hct1
                  go_wp2
                  go_rounds 1
                  go_ret2
                  exact ⟨ret_pair (by rw [Hdec.out, decAt_3 h2 hb1H.out hb2H.out]; simp [Hc1.out]), hbn⟩
                · have hm1 := cont_yes hb11 hb12 hct1
                  have Hc1 := Lib.hid hct1
                  clear hct1
                  cases hct2 : contB b2
                  · have hm2 := cont_no hy21 hy22 hct2
                    have Hc2 := Lib.hid hct2
                    clear hct2
                    go_wp2
                    go_rounds 2
                    go_ret2
                    exact ⟨ret_pair (by rw [Hdec.out, decAt_3 h2 hb1H.out hb2H.out]; simp [Hc1.out, Hc2.out]), hbn⟩
                  · have hm2 := cont_yes hy21 hy22 hct2
                    have Hc2 := Lib.hid hct2
                    clear hct2
                    go_wp2
                    go_rounds 3
                    go_quiet (fail)
                    go_wp2
                    go_ret2
                    exact ⟨ret_pair (by rw [Hdec.out, decAt_3 h2 hb1H.out hb2H.out]; simp [Hc1.out, Hc2.out, and15 hb01 hb02, or64 (r := b0 % 16) (c := b1 % 64) (by omega) (by omega) (by omega) (by omega), or64 (r := b0 % 16 * 64 + b1 % 64) (c := b2 % 64) (by omega) (by omega) (by omega) (by omega)]), bdrewN hbn _⟩
              · obtain ⟨b2, rest2, rfl⟩ : ∃ b2 rest2, rest1 = b2 :: rest2 := by
                  cases rest1 with
                  | nil => have := hr1.len; simp at this; omega
                  | cons b r => exact ⟨b, r, rfl⟩
                have hc2 : W1.cell? ⟨b, off + 2, none⟩ = some (.int .u8 b2) := hr2.cellAt rfl
                have hy21 := (HBS.out b2 (by simp)).1
                have hy22 := (HBS.out b2 (by simp)).2
                obtain ⟨b3, rest3, rfl⟩ : ∃ b3 rest3, rest2 = b3 :: rest3 := by
                  cases rest2 with
                  | nil => have := hr1.len; simp at this; omega
                  | cons b r => exact ⟨b, r, rfl⟩
                have hc3 : W1.cell? ⟨b, off + 3, none⟩ = some (.int .u8 b3) := hr2.cellAt rfl
                have hy31 := (HBS.out b3 (by simp)).1
                have hy32 := (HBS.out b3 (by simp)).2
                cases hct1 : contB b1
                · have hm1 := cont_no hb11 hb12 hct1
                  have Hc1 := Lib.hid hct1
                  clear hct1
                  go_wp2
                  go_rounds 1
                  go_ret2
                  exact ⟨ret_pair (by rw [Hdec.out, decAt_4 h2 hb1H.out hb2H.out]; simp [Hc1.out]), hbn⟩
                · have hm1 := cont_yes hb11 hb12 hct1
                  have Hc1 := Lib.hid hct1
                  clear hct1
                  cases hct2 : contB b2
                  · have hm2 := cont_no hy21 hy22 hct2
                    have Hc2 := Lib.hid hct2
                    clear hct2
                    go_wp2
                    go_rounds 2
                    go_ret2
                    exact ⟨ret_pair (by rw [Hdec.out, decAt_4 h2 hb1H.out hb2H.out]; simp [Hc1.out, Hc2.out]), hbn⟩
                  · have hm2 := cont_yes hy21 hy22 hct2
                    have Hc2 := Lib.hid hct2
                    clear hct2
                    cases hct3 : contB b3
                    · have hm3 := cont_no hy31 hy32 hct3
                      have Hc3 := Lib.hid hct3
                      clear hct3
                      go_wp2
                      go_rounds 3
                      go_ret2
                      exact ⟨ret_pair (by rw [Hdec.out, decAt_4 h2 hb1H.out hb2H.out]; simp [Hc1.out, Hc2.out, Hc3.out]), hbn⟩
                    · have hm3 := cont_yes hy31 hy32 hct3
                      have Hc3 := Lib.hid hct3
                      clear hct3
                      go_wp2
                      go_rounds 4
                      go_quiet (fail)
                      go_wp2
                      go_ret2
                      exact ⟨ret_pair (by rw [Hdec.out, decAt_4 h2 hb1H.out hb2H.out]; simp [Hc1.out, Hc2.out, Hc3.out, and7 hb01 hb02, or64 (r := b0 % 8) (c := b1 % 64) (by omega) (by omega) (by omega) (by omega), or64 (r := b0 % 8 * 64 + b1 % 64) (c := b2 % 64) (by omega) (by omega) (by omega) (by omega), or64 (r := (b0 % 8 * 64 + b1 % 64) * 64 + b2 % 64) (c := b3 % 64) (by omega) (by omega) (by omega) (by omega)]), bdrewN hbn _⟩
      · go_wp2
        go_ret2
        exact ⟨ret_pair (dec_miss fun j hj => hnoH.out j (by omega)), hbel⟩
end Go.Proofs.YtgljhhlnnedmaaaDoor
