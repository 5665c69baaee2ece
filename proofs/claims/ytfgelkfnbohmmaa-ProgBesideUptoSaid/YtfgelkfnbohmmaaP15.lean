/- prog.may: may an instruction stand in a program? -/
import Derived.Handy
import Derived.Test.YtfgelkfnbohmmaaP01
import Derived.Test.YtfgelkfnbohmmaaP03
namespace Go.Proofs.Ytfgelkfnbohmmaa
open Go.RowKit Go.Proofs.Ytfgelkfnbohmmaa.Mach
set_option maxHeartbeats 1000000 in
theorem there_any (i n : Int) (bx : Nat) (w : World) (hc : w.cell? ⟨bx, 0, none⟩ = some (.int .i64 n)) :
    Calls Try.prog 41 #[.int .i64 i, .pointer (some ⟨bx, 0, none⟩)] w fun e w' => e = .returned (.bool (decide (0 ≤ i ∧ i < n))) ∧ w = w' := by
  by_cases h1 : 0 ≤ i <;> by_cases h2 : i < n
  all_goals
    go_enter Try.func41, Try.ntmps41
    go_wp2_with fail
    go_ret
    exact ⟨ret_bool (by simp [h1, h2]), rfl⟩
set_option maxRecDepth 100000 in
set_option maxHeartbeats 4000000 in
theorem may_any (I : Ins) (A : Option Addr) (rn rc : Nat) (n caps : Int) (w : World) (hr : Reads w w.heap.size 2 A rn rc (flat I.rng)) :
    Calls Try.prog 27 #[.agg #[.int .i64 I.op, .int .i64 I.x, .int .i64 I.y, .int .i64 I.arg, .slice A rn rc], .int .i64 n, .int .i64 caps] w fun e w' => e = .returned (.bool (mayB I n caps)) ∧ Below w.heap.size w w' := by
  obtain ⟨op, x, y, arg, rng⟩ := I
  simp only [] at hr ⊢
  have hmf : ∀ (fn : Fn) (first cap : Array Value) (w : World), (Instr.makeFunc fn first cap).run Try.prog w = .ok (.func fn first cap) w := fun _ _ _ _ => rfl
  have hlen : rng.length = rn := by have := hr.len; rw [flat_length] at this; omega
  have HLEN := Lib.hid hlen
  have hnc := hr.le
  have hcap := hr.cap
  have HR := Lib.hid hr
  have HNIL := Lib.hid (show rng = [] ↔ rn = 0 from by rw [← hlen]; exact ⟨fun h => by rw [h]; rfl, List.eq_nil_of_length_eq_zero⟩)
  clear hr hlen
  rcases (show op = 1 ∨ op = 2 ∨ op = 3 ∨ op = 4 ∨ op = 5 ∨ op = 6 ∨ op = 7 ∨ (op < 1 ∨ 7 < op) from by omega) with rfl | rfl | rfl | rfl | rfl | rfl | rfl | hop
  case' inr.inr.inr.inr.inr.inr.inr => rcases hop with hop | hop
  all_goals
    go_enter Try.func27, Try.ntmps27
    go_wp2_with (first
      | (go_at_call 41; refine (there_any _ n (w.heap.size + 1) _ (by go_simp)).mono ?_; rintro e w' ⟨rfl, rfl⟩)
      | (go_at_call 42; refine (right_any A rn rc rng _ (((HR.out.alloc (Nat.le_refl _) _).alloc (by simp) _).more (by simp; omega))).mono ?_; rintro e w' ⟨rfl, hb2⟩; have hb3 := ((((Below.refl w.heap.size w).alloc (Nat.le_refl _) _).alloc (by simp) _).trans (hb2.mono (by simp; omega)))))
    all_goals go_ret
    all_goals refine ⟨ret_bool ?_, by first | exact ((Below.refl _ _).alloc (Nat.le_refl _) _).alloc (by simp) _ | exact hb3⟩
    all_goals unfold mayB
    all_goals simp only [HNIL.out, ne_eq]
    all_goals (first | (simp [isAs, *]; done) | (simp [isAs, *]; omega) | (simp_all [isAs]; done) | (simp_all [isAs]; omega) | (rw [Bool.eq_iff_iff]; simp [isAs, *]; done) | (rw [Bool.eq_iff_iff]; simp [isAs, *]; omega) | (rw [Bool.eq_iff_iff]; simp_all; done))
end Go.Proofs.Ytfgelkfnbohmmaa
namespace Go.Proofs.Ytfgelkfnbohmmaa
open Go.RowKit Go.Proofs.Ytfgelkfnbohmmaa.Mach
set_option maxRecDepth 100000 in
set_option maxHeartbeats 4000000 in
theorem check_any (A : Option Addr) (n c : Nat) (L : List InV) (start caps : Int) (w : World) (hr : ReadsP w w.heap.size A n c L) :
    Calls Try.prog 11 #[.agg #[.slice A n c, .int .i64 start, .int .i64 caps]] w fun e w' => e = .returned (.int .i64 (chkE ⟨insL L, start, caps⟩)) ∧ Below w.heap.size w w' := by
  obtain ⟨B, hB⟩ : ∃ B, B = w.heap.size := ⟨_, rfl⟩
  rw [← hB] at hr
  rw [← hB]
  have hBs : B ≤ w.heap.size := by omega
  have hlen := hr.len
  have HLEN := Lib.hid hlen
  have hnc := hr.1.le
  have hcap := hr.1.cap
  have HR := Lib.hid hr
  have hbe : Below B w (w.alloc (.cells #[.slice A n c, .int .i64 start, .int .i64 caps] 30)) := (Below.refl _ _).alloc hBs _
  have HNO := Lib.hid (show headB n start caps = false → chkE ⟨insL L, start, caps⟩ = 90 from fun h => by
    unfold chkE checkB insL; simp only [List.length_map, hlen, h, Bool.false_and]; rfl)
  clear hlen hr hB
  by_cases h1 : n < 1
  · have HF := Lib.hid (HNO.out (by unfold headB; simp; omega))
    go_enter Try.func11, Try.ntmps11
    go_wp2_with fail
    go_ret
    exact ⟨ret_int HF.out.symm, hbe⟩
  by_cases h2 : 20000 < n
  · have HF := Lib.hid (HNO.out (by unfold headB; simp; omega))
    go_enter Try.func11, Try.ntmps11
    go_wp2_with fail
    go_ret
    exact ⟨ret_int HF.out.symm, hbe⟩
  by_cases h3 : start < 0
  · have HF := Lib.hid (HNO.out (by unfold headB; simp; omega))
    go_enter Try.func11, Try.ntmps11
    go_wp2_with fail
    go_ret
    exact ⟨ret_int HF.out.symm, hbe⟩
  by_cases h4 : (n : Int) ≤ start
  · have HF := Lib.hid (HNO.out (by unfold headB; simp; omega))
    go_enter Try.func11, Try.ntmps11
    go_wp2_with fail
    go_ret
    exact ⟨ret_int HF.out.symm, hbe⟩
  by_cases h5 : caps < 2
  · have HF := Lib.hid (HNO.out (by unfold headB; simp; omega))
    go_enter Try.func11, Try.ntmps11
    go_wp2_with fail
    all_goals go_ret
    all_goals exact ⟨ret_int HF.out.symm, hbe⟩
  by_cases h6 : 1002 < caps
  · have HF := Lib.hid (HNO.out (by unfold headB; simp; omega))
    go_enter Try.func11, Try.ntmps11
    go_wp2_with fail
    all_goals go_ret
    all_goals exact ⟨ret_int HF.out.symm, hbe⟩
  by_cases h7 : caps % 2 = 0
  case neg =>
    have HF := Lib.hid (HNO.out (by unfold headB; simp; omega))
    have h8 : (caps % 2 != 0) = true := by rw [bne_iff_ne]; exact h7
    have h9 : (caps % 2 == 1) = true := by rw [beq_iff_eq]; omega
    have H7 := Lib.hid h7
    clear h7
    go_enter Try.func11, Try.ntmps11
    go_wp2_with fail
    go_ret
    exact ⟨ret_int HF.out.symm, hbe⟩
  have h8 : (caps % 2 != 0) = false := by rw [bne_eq_false_iff_eq]; exact h7
  have h9 : (caps % 2 == 1) = false := by rw [beq_eq_false_iff_ne]; omega
  have HH := Lib.hid (show headB n start caps = true from by unfold headB; simp; omega)
  have HALL := Lib.hid (show checkB ⟨insL L, start, caps⟩ = (insL L).all fun i => mayB i n caps from by
    unfold checkB; simp only [insL, List.length_map]; rw [HLEN.out, HH.out, Bool.true_and])
  have H7 := Lib.hid h7
  have hnn : (1 : Int) ≤ n := by omega
  clear HNO h7
  have hbx1 : (w.alloc (.cells #[.slice A n c, .int .i64 start, .int .i64 caps] 30)).cell? ⟨w.heap.size, 2, none⟩ = some (.int .i64 caps) := (Blk.new w _ [.slice A n c, .int .i64 start, .int .i64 caps]).cell 2
  have hbx0 : (w.alloc (.cells #[.slice A n c, .int .i64 start, .int .i64 caps] 30)).cell? ⟨w.heap.size, 0, none⟩ = some (.slice A n c) := (Blk.new w _ [.slice A n c, .int .i64 start, .int .i64 caps]).cell 0
  have hrb : ReadsP (w.alloc (.cells #[.slice A n c, .int .i64 start, .int .i64 caps] 30)) B A n c L := HR.out.below hbe
  have HRB := Lib.hid hrb
  have HBX := Lib.hid hbx1
  have HBX0 := Lib.hid hbx0
  clear hbx1 hbx0 hrb HR
  obtain ⟨W0, hW0⟩ : ∃ W0, W0 = w.alloc (.cells #[.slice A n c, .int .i64 start, .int .i64 caps] 30) := ⟨_, rfl⟩
  rw [← hW0] at hbe HRB HBX HBX0
  have hsz : W0.heap.size = w.heap.size + 1 := by rw [hW0]; simp
  have HSZ := Lib.hid hsz
  have HW0 := Lib.hid hW0
  clear hsz hW0
  go_enter Try.func11, Try.ntmps11
  go_wp2_with fail
  rw [← HW0.out]
  go_loopw [45] (fun p wr => ∃ i : Nat, i ≤ n ∧ p = .int .i64 i ∧ (∀ v ∈ L.take i, mayB v.I n caps = true) ∧ Below W0.heap.size W0 wr) (fun p _ => n - (intOf p).toNat)
  case atStart => exact ⟨0, Nat.zero_le _, rfl, by simp, Below.refl _ _⟩
  case round =>
    obtain ⟨i, hi1, rfl, hok, hbel⟩ := hrel
    have HOK := Lib.hid hok
    have hszr := hbel.size
    have hbB : Below B w wr := hbe.trans (hbel.mono (by rw [HSZ.out]; omega))
    clear hok
    have hq2 : wr.cell? ⟨w.heap.size, 2, none⟩ = some (.int .i64 caps) := (hbel.cell (p := ⟨w.heap.size, 2, none⟩) (by rw [HSZ.out]; simp)).trans HBX.out
    have hq0 : wr.cell? ⟨w.heap.size, 0, none⟩ = some (.slice A n c) := (hbel.cell (p := ⟨w.heap.size, 0, none⟩) (by rw [HSZ.out]; simp)).trans HBX0.out
    by_cases hlt : i < n
    · obtain ⟨v, hv⟩ : ∃ v, L[i]? = some v := ⟨_, List.getElem?_eq_getElem (by have := HLEN.out; omega)⟩
      obtain ⟨b, off, rfl, hb⟩ := HRB.out.at_ (by omega)
      have hrw : ReadsP wr W0.heap.size (some ⟨b, off, none⟩) n c L := (HRB.out.more (by rw [HSZ.out]; omega)).below hbel
      have hrv := (hrw.2 v (List.mem_of_getElem? hv)).1
      obtain ⟨hc0, hc1, hc2, hc3, hc4⟩ := hrw.cells hv
      have HV := Lib.hid hv
      have HSTEP := Lib.hid (show mayB v.I n caps = true → ∀ u ∈ L.take (i + 1), mayB u.I n caps = true from fun h u hu => by
        rw [List.take_add_one, HV.out] at hu
        simp only [Option.toList_some, List.mem_append, List.mem_singleton] at hu
        rcases hu with hu | rfl
        · exact HOK.out u hu
        · exact h)
      have HBAD := Lib.hid (show mayB v.I n caps = false → chkE ⟨insL L, start, caps⟩ = 90 from fun h => by
        unfold chkE
        rw [HALL.out]
        have : (insL L).all (fun i => mayB i n caps) = false := by
          rw [List.all_eq_false]
          exact ⟨v.I, by unfold insL; exact List.mem_map.2 ⟨v, List.mem_of_getElem? HV.out, rfl⟩, by simp [h]⟩
        rw [this]; rfl)
      have HRV := Lib.hid hrv
      clear hv hrv hrw
      obtain ⟨⟨op, x, y, arg, rng⟩, vA, vn, vc⟩ := v
      simp only [] at hc0 hc1 hc2 hc3 hc4 HBAD HSTEP HRV
      have hbel1 := hbel.alloc hszr (.cells #[.int .i64 op, .int .i64 x, .int .i64 y, .int .i64 arg, .slice vA vn vc] 54)
      have hs1 : W0.heap.size ≤ (wr.alloc (.cells #[.int .i64 op, .int .i64 x, .int .i64 y, .int .i64 arg, .slice vA vn vc] 54)).heap.size := Nat.le_trans hszr (by simp)
      have hbq : w.heap.size < wr.heap.size := by have := HSZ.out; omega
      have HM := Lib.hid (may_any ⟨op, x, y, arg, rng⟩ vA vn vc n caps (wr.alloc (.cells #[.int .i64 op, .int .i64 x, .int .i64 y, .int .i64 arg, .slice vA vn vc] 54)) (((HRV.out.alloc hszr _)).more hs1))
      have HBB := Lib.hid hbB
      cases hm : mayB ⟨op, x, y, arg, rng⟩ n caps with
      | false =>
        go_wp2_with (go_at_call 27; refine HM.out.mono ?_; rintro e w2 ⟨rfl, hb2⟩; rw [hm])
        go_ret
        exact ⟨ret_int (HBAD.out hm).symm, HBB.out.trans (((Below.refl _ _).alloc (by omega) _).trans (hb2.mono (by simp; omega)))⟩
      | true =>
        go_wp2_with (go_at_call 27; refine HM.out.mono ?_; rintro e w2 ⟨rfl, hb2⟩; rw [hm])
        go_roundw
        case rel => exact ⟨i + 1, by omega, by go_num, HSTEP.out hm, hbel1.trans (hb2.mono hs1)⟩
        case measure => simp [intOf]; omega
    · obtain rfl : i = n := by omega
      have HT := Lib.hid (show chkE ⟨insL L, start, caps⟩ = 0 from by
        unfold chkE
        rw [HALL.out]
        have : (insL L).all (fun x => mayB x i caps) = true := by
          rw [List.all_eq_true]
          intro x hx
          obtain ⟨v, hv, rfl⟩ := List.mem_map.1 hx
          exact HOK.out v (by rw [List.take_of_length_le (by have := HLEN.out; omega)]; exact hv)
        rw [this]; rfl)
      go_wp2_with fail
      go_ret
      exact ⟨ret_int HT.out.symm, hbB⟩
end Go.Proofs.Ytfgelkfnbohmmaa
namespace Go.Proofs.Ytfgelkfnbohmmaa
open Go.RowKit Go.Proofs.Ytfgelkfnbohmmaa.Tr
/-- How an assertion is written. -/
def asS (n : Int) : ByteArray := if (n == 1) = true then ⟨#[92, 65]⟩ else if (n == 2) = true then ⟨#[92, 122]⟩ else if (n == 4) = true then ⟨#[94]⟩ else if (n == 8) = true then ⟨#[36]⟩ else if (n == 16) = true then ⟨#[92, 98]⟩ else if (n == 32) = true then ⟨#[92, 66]⟩ else ⟨#[]⟩
set_option maxRecDepth 100000 in
set_option maxHeartbeats 1000000 in
theorem assertion_any (n : Int) (w : World) :
    Calls Try.prog 92 #[.int .i64 n] w fun e w' => e = .returned (.string (asS n)) ∧ w = w' := by
  go_enter Try.func92, Try.ntmps92
  go_wp2_with fail
  all_goals go_ret
  all_goals exact ⟨by simp only [asS, *]; rfl, rfl⟩
theorem wordB (c : UInt8) : word (wrap64 (c.toNat : Int)) = (letterB c || digitB c) := by
  have h := UInt8.toNat_lt c
  have e : wrap64 (c.toNat : Int) = (c.toNat : Int) := by unfold wrap64; omega
  rw [e]
  unfold word letterB digitB
  rw [Bool.eq_iff_iff]
  simp only [decide_eq_true_eq, Bool.or_eq_true, Bool.and_eq_true, beq_iff_eq]
  omega
def wordsTo (s : ByteArray) (i : Nat) : Bool := (s.data.toList.take i).all fun c => letterB c || digitB c
theorem words_step {s : ByteArray} {i : Nat} (h : i < s.size) : wordsTo s (i + 1) = (wordsTo s i && (letterB (s[i]'h) || digitB (s[i]'h))) := by
  unfold wordsTo
  rw [List.take_add_one, List.all_append]
  have e : s.data.toList[i]? = some (s[i]'h) := by
    rw [Array.getElem?_toList, Array.getElem?_eq_getElem h]; rfl
  rw [e]
  simp
theorem words_no {s : ByteArray} {i : Nat} (h : wordsTo s i = false) : nameB s = false := by
  unfold nameB
  have : (s.data.toList.all fun c => letterB c || digitB c) = false := by
    cases hh : s.data.toList.all fun c => letterB c || digitB c with
    | false => rfl
    | true =>
      rw [← h]; symm
      unfold wordsTo
      rw [List.all_eq_true] at hh ⊢
      exact fun c hc => hh c (List.mem_of_mem_take hc)
  rw [this]; simp
theorem name_end {s : ByteArray} (h : wordsTo s s.size = true) : nameB s = (decide (1 ≤ s.size) && (decide (s.size ≤ 32) && !(digitB (s.data.toList.getD 0 0)))) := by
  unfold nameB
  have : (s.data.toList.all fun c => letterB c || digitB c) = true := by
    unfold wordsTo at h
    rwa [List.take_of_length_le (by rw [Array.length_toList]; exact Nat.le_refl _)] at h
  rw [this, Bool.and_true, Bool.and_assoc]
theorem name_head {s : ByteArray} (h : 0 < s.size) : s.data.toList.getD 0 0 = s[0]'h := by
  rw [List.getD_eq_getElem?_getD, Array.getElem?_toList, Array.getElem?_eq_getElem h]; rfl
set_option maxRecDepth 100000 in
set_option maxHeartbeats 1000000 in
theorem name_any (s : ByteArray) (w : World) (hs : s.size ≤ 1048576) :
    Calls Try.prog 93 #[.string s] w fun e w' => e = .returned (.bool (nameB s)) ∧ w = w' := by
  go_enter Try.func93, Try.ntmps93
  go_wp2_with fail
  go_loopw [6] (fun iv wr => ∃ i : Nat, i ≤ s.size ∧ iv = .int .i64 (i : Int) ∧ wordsTo s i = true ∧ wr = w) (fun iv _ => s.size - (intOf iv).toNat)
  case atStart => exact ⟨0, Nat.zero_le _, rfl, by simp [wordsTo], rfl⟩
  case round =>
    obtain ⟨i, hi, rfl, ht, rfl⟩ := hrel
    have HT := Lib.hid ht
    clear ht
    by_cases hlt : i < s.size
    · have hlt2 : (i : Int) < (s.size : Int) := by omega
      have hst := words_step hlt
      rw [HT.out, Bool.true_and, ← wordB] at hst
      obtain ⟨b, hb⟩ : ∃ b, b = word (wrap64 ((s[i]'hlt).toNat : Int)) := ⟨_, rfl⟩
      rw [← hb] at hst
      have HW := Lib.hid (word_any (wrap64 ((s[i]'hlt).toNat : Int)))
      rw [← hb] at HW
      clear hb
      have HST := Lib.hid hst
      clear hst
      cases b with
      | true =>
        go_wp2_with (go_at_call 94; refine (HW.out wr).mono ?_; rintro e w2 ⟨rfl, rfl⟩; simp only [])
        go_roundw
        case rel => exact ⟨i + 1, by omega, by go_num, HST.out, by trivial⟩
        case measure => simp [intOf]; omega
      | false =>
        go_wp2_with (go_at_call 94; refine (HW.out wr).mono ?_; rintro e w2 ⟨rfl, rfl⟩; simp only [])
        go_ret
        exact ⟨ret_bool (words_no HST.out).symm, rfl⟩
    · obtain rfl : i = s.size := by omega
      have hlt2 : ¬ ((s.size : Int) < (s.size : Int)) := by omega
      have hne := name_end HT.out
      by_cases h1 : s.size = 0
      · have h1a : ¬ ((1 : Int) ≤ (s.size : Int)) := by omega
        have e1 : decide (1 ≤ s.size) = false := decide_eq_false (by omega)
        rw [e1, Bool.false_and] at hne
        have HNE := Lib.hid hne
        clear hne e1
        go_wp2_with fail
        go_ret
        exact ⟨ret_bool HNE.out.symm, rfl⟩
      · have h1a : (1 : Int) ≤ (s.size : Int) := by omega
        have e1 : decide (1 ≤ s.size) = true := decide_eq_true (by omega)
        have hpos : 0 < s.size := by omega
        rw [e1, Bool.true_and, name_head hpos] at hne
        by_cases h2 : s.size ≤ 32
        · have h2a : (s.size : Int) ≤ 32 := by omega
          have e2 : decide (s.size ≤ 32) = true := by simp; omega
          rw [e2, Bool.true_and] at hne
          have hc := UInt8.toNat_lt (s[0]'hpos)
          have HNE := Lib.hid hne
          clear h1 h2 hne e1 e2
          go_wp2_with fail
          all_goals go_ret
          all_goals exact ⟨ret_bool (HNE.out.trans (by unfold digitB; rw [Bool.eq_iff_iff]; simp; omega)).symm, rfl⟩
        · have h2a : ¬ ((s.size : Int) ≤ 32) := by omega
          have e2 : decide (s.size ≤ 32) = false := by simp; omega
          rw [e2, Bool.false_and] at hne
          have HNE := Lib.hid hne
          clear h1 h2 hne e1 e2
          go_wp2_with fail
          go_ret
          exact ⟨ret_bool HNE.out.symm, rfl⟩
end Go.Proofs.Ytfgelkfnbohmmaa
