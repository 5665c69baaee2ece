/- heronref01: value, six, Bytes -/
import Derived.Test.YtgljhhlnnedmaaaDoorProg
import Derived.Test.YtgljhhlnnedmaaaDoorMem
import Derived.Test.YtgljhhlnnedmaaaDoorRunesPure
import Derived.WalkLawsBesides
import Derived.BigQuiet
import Derived.Deep.QuietTactic
import Derived.Handy
namespace Go.Proofs.YtgljhhlnnedmaaaDoor
open Go.RowKit

def valueOf : List Int → Int
  | [a] => a
  | [a, b] => a % 32 * 64 + b % 64
  | [a, b, c] => a % 16 * 4096 + b % 64 * 64 + c % 64
  | [a, b, c, d] => a % 8 * 262144 + b % 64 * 4096 + c % 64 * 64 + d % 64
  | _ => 0

def encB (r : Int) : List Int :=
  if r ≤ 127 then [r] else if r ≤ 2047 then [192 + r / 64, 128 + r % 64] else if r ≤ 65535 then [224 + r / 4096, 128 + r / 64 % 64, 128 + r % 64]
  else [240 + r / 262144, 128 + r / 4096 % 64, 128 + r / 64 % 64, 128 + r % 64]

theorem encB_len (r : Int) : 1 ≤ (encB r).length ∧ (encB r).length ≤ 4 := by
  unfold encB
  by_cases h1 : r ≤ 127
  · simp [h1]
  by_cases h2 : r ≤ 2047
  · simp [h1, h2]
  by_cases h3 : r ≤ 65535 <;> simp [h1, h2, h3]

theorem encB_bd {r : Int} (h0 : 0 ≤ r) (h1 : r ≤ 1114111) : ∀ b ∈ encB r, 0 ≤ b ∧ b ≤ 255 := by
  unfold encB
  by_cases g1 : r ≤ 127
  · simp [g1]; omega
  by_cases g2 : r ≤ 2047
  · simp [g1, g2]; omega
  by_cases g3 : r ≤ 65535 <;> simp [g1, g2, g3] <;> omega

set_option maxHeartbeats 1000000 in
theorem value_any (A : Option Addr) (n c B : Nat) (bs : List Int) (w : World) (hr : Reads w B 1 A n c (bs.map (Value.int .u8))) (hbs : ∀ b ∈ bs, 0 ≤ b ∧ b ≤ 255) (hn1 : 1 ≤ n) (hn4 : n ≤ 4) :
    Calls Tryd.prog 35 #[.slice A n c] w fun e w' => e = .returned (.int .i64 (valueOf bs)) ∧ ∃ k, w' = w.drewN k := by
  obtain ⟨b, off, rfl, hb, hcell⟩ := hr.at_ (by omega)
  have hlen := hr.len
  simp only [List.length_map, Nat.mul_one] at hlen
  have hcap := hr.cap
  have hnc := hr.le
  clear hr
  match bs, hlen with
  | [], h => simp at h; omega
  | [x0], h =>
    obtain rfl : n = 1 := by simpa using h.symm
    have c0 : w.cell? ⟨b, off, none⟩ = some (.int .u8 x0) := hcell 0 _ rfl
    have h01 := (hbs x0 (by simp)).1
    have h02 := (hbs x0 (by simp)).2
    clear hcell hbs
    go_enter Tryd.func35, Tryd.ntmps35
    go_wp2
    go_ret
    exact ⟨ret_int (by simp [valueOf]), 0, rfl⟩
  | [x0, x1], h =>
    obtain rfl : n = 2 := by simpa using h.symm
    have c0 : w.cell? ⟨b, off, none⟩ = some (.int .u8 x0) := hcell 0 _ rfl
    have c1 : w.cell? ⟨b, off + 1, none⟩ = some (.int .u8 x1) := hcell 1 _ rfl
    have h01 := (hbs x0 (by simp)).1
    have h02 := (hbs x0 (by simp)).2
    have h11 := (hbs x1 (by simp)).1
    have h12 := (hbs x1 (by simp)).2
    clear hcell hbs
    go_enter Tryd.func35, Tryd.ntmps35
    go_wp2
    go_quiet (fail)
    go_wp2
    go_ret
    exact ⟨ret_int (by simp [valueOf]), _, rfl⟩
  | [x0, x1, x2], h =>
    obtain rfl : n = 3 := by simpa using h.symm
    have c0 : w.cell? ⟨b, off, none⟩ = some (.int .u8 x0) := hcell 0 _ rfl
    have c1 : w.cell? ⟨b, off + 1, none⟩ = some (.int .u8 x1) := hcell 1 _ rfl
    have c2 : w.cell? ⟨b, off + 2, none⟩ = some (.int .u8 x2) := hcell 2 _ rfl
    have h01 := (hbs x0 (by simp)).1
    have h02 := (hbs x0 (by simp)).2
    have h11 := (hbs x1 (by simp)).1
    have h12 := (hbs x1 (by simp)).2
    have h21 := (hbs x2 (by simp)).1
    have h22 := (hbs x2 (by simp)).2
    clear hcell hbs
    go_enter Tryd.func35, Tryd.ntmps35
    go_wp2
    go_quiet (fail)
    go_wp2
    go_ret
    exact ⟨ret_int (by simp [valueOf]), _, rfl⟩
  | [x0, x1, x2, x3], h =>
    obtain rfl : n = 4 := by simpa using h.symm
    have c0 : w.cell? ⟨b, off, none⟩ = some (.int .u8 x0) := hcell 0 _ rfl
    have c1 : w.cell? ⟨b, off + 1, none⟩ = some (.int .u8 x1) := hcell 1 _ rfl
    have c2 : w.cell? ⟨b, off + 2, none⟩ = some (.int .u8 x2) := hcell 2 _ rfl
    have c3 : w.cell? ⟨b, off + 3, none⟩ = some (.int .u8 x3) := hcell 3 _ rfl
    have h01 := (hbs x0 (by simp)).1
    have h02 := (hbs x0 (by simp)).2
    have h11 := (hbs x1 (by simp)).1
    have h12 := (hbs x1 (by simp)).2
    have h21 := (hbs x2 (by simp)).1
    have h22 := (hbs x2 (by simp)).2
    have h31 := (hbs x3 (by simp)).1
    have h32 := (hbs x3 (by simp)).2
    clear hcell hbs
    go_enter Tryd.func35, Tryd.ntmps35
    go_wp2
    go_quiet (fail)
    go_wp2
    go_ret
    exact ⟨ret_int (by simp [valueOf]), _, rfl⟩
  | _ :: _ :: _ :: _ :: _ :: _, h => simp at h; omega

set_option maxHeartbeats 400000 in
theorem six_any (r : Int) (w : World) (h0 : 0 ≤ r) (h1 : r ≤ 1114111) :
    Calls Tryd.prog 45 #[.int .i64 r, .int .i64 0] w fun e w' => e = .returned (.int .u8 (128 + r % 64)) ∧ w = w' := by
  go_enter Tryd.func45, Tryd.ntmps45
  go_wp2
  go_ret
  exact ⟨ret_int (by simp), rfl⟩

set_option maxHeartbeats 1000000 in
theorem bytes_any (r : Int) (w : World) (h0 : 0 ≤ r) (h1 : r ≤ 1114111) :
    Calls Tryd.prog 37 #[.int .i64 r] w fun e w' => e = .returned (.slice (some ⟨w.heap.size, 0, none⟩) (encB r).length (encB r).length) ∧ w.alloc (.cells ((encB r).map (Value.int .u8)).toArray 5) = w' := by
  by_cases g1 : r ≤ 127
  · rw [show encB r = [r] from by simp [encB, g1]]
    go_enter Tryd.func37, Tryd.ntmps37
    go_wp2
    go_ret
    exact ⟨rfl, rfl⟩
  by_cases g2 : r ≤ 2047
  · rw [show encB r = [192 + r / 64, 128 + r % 64] from by simp [encB, g1, g2]]
    go_enter Tryd.func37, Tryd.ntmps37
    go_wp2_with (go_at_call 45; refine (six_any _ _ (by omega) (by omega)).mono ?_; rintro e w' ⟨rfl, rfl⟩)
    go_ret
    exact ⟨rfl, rfl⟩
  by_cases g3 : r ≤ 65535
  · rw [show encB r = [224 + r / 4096, 128 + r / 64 % 64, 128 + r % 64] from by simp [encB, g1, g2, g3]]
    go_enter Tryd.func37, Tryd.ntmps37
    go_wp2_with (go_at_call 45; refine (six_any _ _ (by omega) (by omega)).mono ?_; rintro e w' ⟨rfl, rfl⟩)
    go_ret
    exact ⟨rfl, rfl⟩
  · rw [show encB r = [240 + r / 262144, 128 + r / 4096 % 64, 128 + r / 64 % 64, 128 + r % 64] from by simp [encB, g1, g2, g3]]
    go_enter Tryd.func37, Tryd.ntmps37
    go_wp2_with (go_at_call 45; refine (six_any _ _ (by omega) (by omega)).mono ?_; rintro e w' ⟨rfl, rfl⟩)
    go_ret
    exact ⟨rfl, rfl⟩
end Go.Proofs.YtgljhhlnnedmaaaDoor
