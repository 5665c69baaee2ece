/- printer.name, printer.assertion: both cases. -/
import Derived.Test.YtajpkgbgfneacaaQTree
import Derived.Test.YtajpkgbgfneacaaQRunesCore
import Derived.Test.YtajpkgbgfneacaaQMem
namespace Go.Proofs.Ytajpkgbgfneacaa
open Go.RowKit Go.Proofs.Ytajpkgbgfneacaa.Tr

/-- How an assertion is written. -/
def asS (n : Int) : ByteArray := if (n == 1) = true then ⟨#[92, 65]⟩ else if (n == 2) = true then ⟨#[92, 122]⟩ else if (n == 4) = true then ⟨#[94]⟩ else if (n == 8) = true then ⟨#[36]⟩ else if (n == 16) = true then ⟨#[92, 98]⟩ else if (n == 32) = true then ⟨#[92, 66]⟩ else ⟨#[]⟩
set_option maxRecDepth 100000 in
set_option maxHeartbeats 1000000 in
theorem assertion_any (n : Int) (w : World) :
    Calls Try.prog 45 #[.int .i64 n] w fun e w' => e = .returned (.string (asS n)) ∧ w = w' := by
  go_enter Try.func45, Try.ntmps45
  go_wp2_with fail
  all_goals go_ret
  all_goals exact ⟨by simp only [asS, *]; rfl, rfl⟩
theorem wordB (c : UInt8) : word (wrap64 (c.toNat : Int)) = (letterB c || digitB c) := by
  have h := UInt8.toNat_lt c
  have e : wrap64 (c.toNat : Int) = (c.toNat : Int) := by unfold wrap64; omega
  rw [e]
  unfold word letterB digitB
  rw [Bool.eq_iff_iff]
  simp only [decide_eq_true_eq, Bool.or_eq_true, Bool.and_eq_true, beq_iff_eq]
  omega
def wordsTo (s : ByteArray) (i : Nat) : Bool := (s.data.toList.take i).all fun c => letterB c || digitB c
theorem words_step {s : ByteArray} {i : Nat} (h : i < s.size) : wordsTo s (i + 1) = (wordsTo s i && (letterB (s[i]'h) || digitB (s[i]'h))) := by
  unfold wordsTo
  rw [List.take_add_one, List.all_append]
  have e : s.data.toList[i]? = some (s[i]'h) := by
    rw [Array.getElem?_toList, Array.getElem?_eq_getElem h]; rfl
  rw [e]
  simp
theorem words_no {s : ByteArray} {i : Nat} (h : wordsTo s i = false) : nameB s = false := by
  unfold nameB
  have : (s.data.toList.all fun c => letterB c || digitB c) = false := by
    cases hh : s.data.toList.all fun c => letterB c || digitB c with
    | false => rfl
    | true =>
      rw [← h]; symm
      unfold wordsTo
      rw [List.all_eq_true] at hh ⊢
      exact fun c hc => hh c (List.mem_of_mem_take hc)
  rw [this]; simp
theorem name_end {s : ByteArray} (h : wordsTo s s.size = true) : nameB s = (decide (1 ≤ s.size) && (decide (s.size ≤ 32) && !(digitB (s.data.toList.getD 0 0)))) := by
  unfold nameB
  have : (s.data.toList.all fun c => letterB c || digitB c) = true := by
    unfold wordsTo at h
    rwa [List.take_of_length_le (by rw [Array.length_toList]; exact Nat.le_refl _)] at h
  rw [this, Bool.and_true, Bool.and_assoc]
theorem name_head {s : ByteArray} (h : 0 < s.size) : s.data.toList.getD 0 0 = s[0]'h := by
  rw [List.getD_eq_getElem?_getD, Array.getElem?_toList, Array.getElem?_eq_getElem h]; rfl
set_option maxRecDepth 100000 in
set_option maxHeartbeats 1000000 in
theorem name_any (s : ByteArray) (w : World) (hs : s.size ≤ 1048576) :
    Calls Try.prog 46 #[.string s] w fun e w' => e = .returned (.bool (nameB s)) ∧ w = w' := by
  go_enter Try.func46, Try.ntmps46
  go_wp2_with fail
  go_loopw [6] (fun iv wr => ∃ i : Nat, i ≤ s.size ∧ iv = .int .i64 (i : Int) ∧ wordsTo s i = true ∧ wr = w) (fun iv _ => s.size - (intOf iv).toNat)
  case atStart => exact ⟨0, Nat.zero_le _, rfl, by simp [wordsTo], rfl⟩
  case round =>
    obtain ⟨i, hi, rfl, ht, rfl⟩ := hrel
    have HT := Lib.hid ht
    clear ht
    by_cases hlt : i < s.size
    · have hlt2 : (i : Int) < (s.size : Int) := by omega
      have hst := words_step hlt
      rw [HT.out, Bool.true_and, ← wordB] at hst
      obtain ⟨b, hb⟩ : ∃ b, b = word (wrap64 ((s[i]'hlt).toNat : Int)) := ⟨_, rfl⟩
      rw [← hb] at hst
      have HW := Lib.hid (word_any (wrap64 ((s[i]'hlt).toNat : Int)))
      rw [← hb] at HW
      clear hb
      have HST := Lib.hid hst
      clear hst
      cases b with
      | true =>
        go_wp2_with (go_at_call 49; refine (HW.out wr).mono ?_; rintro e w2 ⟨rfl, rfl⟩; simp only [])
        go_roundw
        case rel => exact ⟨i + 1, by omega, by go_num, HST.out, by trivial⟩
        case measure => simp [intOf]; omega
      | false =>
        go_wp2_with (go_at_call 49; refine (HW.out wr).mono ?_; rintro e w2 ⟨rfl, rfl⟩; simp only [])
        go_ret
        exact ⟨ret_bool (words_no HST.out).symm, rfl⟩
    · obtain rfl : i = s.size := by omega
      have hlt2 : ¬ ((s.size : Int) < (s.size : Int)) := by omega
      have hne := name_end HT.out
      by_cases h1 : s.size = 0
      · have h1a : ¬ ((1 : Int) ≤ (s.size : Int)) := by omega
        have e1 : decide (1 ≤ s.size) = false := decide_eq_false (by omega)
        rw [e1, Bool.false_and] at hne
        have HNE := Lib.hid hne
        clear hne e1
        go_wp2_with fail
        go_ret
        exact ⟨ret_bool HNE.out.symm, rfl⟩
      · have h1a : (1 : Int) ≤ (s.size : Int) := by omega
        have e1 : decide (1 ≤ s.size) = true := decide_eq_true (by omega)
        have hpos : 0 < s.size := by omega
        rw [e1, Bool.true_and, name_head hpos] at hne
        by_cases h2 : s.size ≤ 32
        · have h2a : (s.size : Int) ≤ 32 := by omega
          have e2 : decide (s.size ≤ 32) = true := by simp; omega
          rw [e2, Bool.true_and] at hne
          have hc := UInt8.toNat_lt (s[0]'hpos)
          have HNE := Lib.hid hne
          clear h1 h2 hne e1 e2
          go_wp2_with fail
          all_goals go_ret
          all_goals exact ⟨ret_bool (HNE.out.trans (by unfold digitB; rw [Bool.eq_iff_iff]; simp; omega)).symm, rfl⟩
        · have h2a : ¬ ((s.size : Int) ≤ 32) := by omega
          have e2 : decide (s.size ≤ 32) = false := by simp; omega
          rw [e2, Bool.false_and] at hne
          have HNE := Lib.hid hne
          clear h1 h2 hne e1 e2
          go_wp2_with fail
          go_ret
          exact ⟨ret_bool HNE.out.symm, rfl⟩
end Go.Proofs.Ytajpkgbgfneacaa
