/- heronref05.assertion, Name, bare: both cases. -/
import Derived.Test.YtjeljlgjkjeloaaQName
import Derived.Deep.CutRange
import Derived.Test.YtjeljlgjkjeloaaQRefRightR
namespace Go.Proofs.Ytjeljlgjkjeloaa
open Go.RowKit Go.Proofs.Ytjeljlgjkjeloaa.Tr

set_option maxRecDepth 100000 in
set_option maxHeartbeats 1000000 in
theorem rAssertion_any (n : Int) (w : World) :
    Calls Try.prog 70 #[.int .i64 n] w fun e w' => e = .returned (.bool (assertB n)) ∧ w = w' := by
  go_enter Try.func70, Try.ntmps70
  go_wp2_with fail
  all_goals go_ret
  all_goals exact ⟨ret_bool (by simp [assertB, *]), rfl⟩
/-- What bare tells. -/
def bareB (f1 f2 f3 f4 f5 : Bool) (r : List (Int × Int)) (a : Int) (q : Nat) (n m : Int) (z : Bool) (i : Int) (s : ByteArray) : Bool :=
  (f1 || ((r.length : Int) == 0)) && ((f2 || (a == 0)) && ((f3 || ((q : Int) == 0)) && ((f4 || ((n == 0) && ((m == 0) && !z))) && (f5 || ((i == 0) && s.toList.isEmpty)))))
set_option maxRecDepth 100000 in
set_option maxHeartbeats 4000000 in
theorem bare_any (f1 f2 f3 f4 f5 : Bool) (hf : (f1 = false ∧ f2 = false ∧ f3 = false ∧ f4 = false ∧ f5 = false) ∨ (f1 = true ∧ f2 = false ∧ f3 = false ∧ f4 = false ∧ f5 = false) ∨ (f1 = false ∧ f2 = true ∧ f3 = false ∧ f4 = false ∧ f5 = false) ∨ (f1 = false ∧ f2 = false ∧ f3 = true ∧ f4 = false ∧ f5 = false) ∨ (f1 = false ∧ f2 = false ∧ f3 = true ∧ f4 = true ∧ f5 = false) ∨ (f1 = false ∧ f2 = false ∧ f3 = true ∧ f4 = false ∧ f5 = true))
    (k : Int) (r : List (Int × Int)) (ra : Option Addr) (rc : Nat) (ast : Int) (l : List Ta) (sa : Option Addr) (sc : Nat) (mn mx : Int) (z : Bool) (ix : Int) (nm : ByteArray) (w : World) (hrl : r.length ≤ 1048576) (hll : l.length ≤ 1048576) :
    Calls Try.prog 68 #[(Ta.mk k r ra rc ast l sa sc mn mx z ix nm).val, .bool f1, .bool f2, .bool f3, .bool f4, .bool f5] w fun e w' => e = .returned (.bool (bareB f1 f2 f3 f4 f5 r ast l.length mn mx z ix nm)) ∧ Below w.heap.size w w' := by
  simp only [Ta.val, Ta.vals]
  rcases hf with ⟨rfl, rfl, rfl, rfl, rfl⟩ | ⟨rfl, rfl, rfl, rfl, rfl⟩ | ⟨rfl, rfl, rfl, rfl, rfl⟩ | ⟨rfl, rfl, rfl, rfl, rfl⟩ | ⟨rfl, rfl, rfl, rfl, rfl⟩ | ⟨rfl, rfl, rfl, rfl, rfl⟩
  all_goals
    go_enter Try.func68, Try.ntmps68
    go_wp2_with fail
  all_goals go_ret
  all_goals exact ⟨ret_bool (by simp [bareB, *]), (Below.refl _ _).alloc (Nat.le_refl _) _⟩
end Go.Proofs.Ytjeljlgjkjeloaa
/- heronref05.Name: both cases. -/
namespace Go.Proofs.Ytjeljlgjkjeloaa
open Go.RowKit Go.Proofs.Ytjeljlgjkjeloaa.Tr

theorem bool_eq {a b : Bool} (h : a = b) : Value.bool a = Value.bool b := by rw [h]
/-- Are the first i bytes of a name letters, or digits behind the first? -/
def namesTo (s : ByteArray) (i : Nat) : Bool := wordsTo s i && (decide (i = 0) || !digitB (s.data.toList.getD 0 0))
theorem names_step {s : ByteArray} {i : Nat} (h : i < s.size) (hi : namesTo s i = true) : namesTo s (i + 1) = (letterB (s[i]'h) || (digitB (s[i]'h) && !decide (i = 0))) := by
  unfold namesTo at hi ⊢
  rw [Bool.and_eq_true] at hi
  rw [words_step h, hi.1, Bool.true_and]
  have e : decide (i + 1 = 0) = false := decide_eq_false (by omega)
  rw [e, Bool.false_or]
  have hld : letterB (s[i]'h) = true → digitB (s[i]'h) = false := by
    unfold letterB digitB
    intro g
    simp only [decide_eq_true_eq, Bool.or_eq_true, Bool.and_eq_true, beq_iff_eq] at g
    rw [Bool.and_eq_false_iff, decide_eq_false_iff_not, decide_eq_false_iff_not]
    omega
  by_cases h0 : i = 0
  · subst h0
    rw [name_head h]
    cases hl : letterB (s[0]'h) with
    | true => rw [hld hl]; rfl
    | false => cases digitB (s[0]'h) <;> rfl
  · have e2 : decide (i = 0) = false := decide_eq_false h0
    rw [e2] at hi ⊢
    have := hi.2
    rw [Bool.false_or] at this
    rw [this]
    cases letterB (s[i]'h) <;> cases digitB (s[i]'h) <;> rfl
theorem names_no {s : ByteArray} {i : Nat} (hi0 : 0 < i) (his : i ≤ s.size) (h : namesTo s i = false) : nameB s = false := by
  unfold namesTo at h
  rw [Bool.and_eq_false_iff] at h
  rcases h with h | h
  · exact words_no h
  · have e : decide (i = 0) = false := decide_eq_false (by omega)
    rw [e, Bool.false_or] at h
    unfold nameB
    rw [h, Bool.and_false]
theorem names_end {s : ByteArray} (h : namesTo s s.size = true) (h1 : 1 ≤ s.size) (h2 : s.size ≤ 32) : nameB s = true := by
  unfold namesTo at h
  rw [Bool.and_eq_true] at h
  have e : decide (s.size = 0) = false := decide_eq_false (by omega)
  rw [e, Bool.false_or] at h
  rw [name_end h.1, decide_eq_true h1, decide_eq_true h2, h.2]; rfl
theorem names_nil (s : ByteArray) : namesTo s 0 = true := by simp [namesTo, wordsTo]
theorem names_size {s : ByteArray} (h : ¬ (1 ≤ s.size ∧ s.size ≤ 32)) : nameB s = false := by
  unfold nameB
  by_cases h1 : 1 ≤ s.size
  · rw [decide_eq_false (show ¬ s.size ≤ 32 from fun h2 => h ⟨h1, h2⟩)]; simp
  · rw [decide_eq_false h1]; simp
set_option maxRecDepth 100000 in
set_option maxHeartbeats 2000000 in
theorem rName_any (s : ByteArray) (w : World) (hs : s.size ≤ 1048576) :
    Calls Try.prog 71 #[.string s] w fun e w' => e = .returned (.bool (nameB s)) ∧ w = w' := by
  by_cases h1 : s.size < 1
  · have hn := names_size (s := s) (by omega)
    have h1a : (s.size : Int) < 1 := by omega
    rw [hn]
    clear hn
    go_enter Try.func71, Try.ntmps71
    go_wp2_with fail
    go_ret
    exact ⟨rfl, rfl⟩
  · by_cases h2 : 32 < s.size
    · have hn := names_size (s := s) (by omega)
      have h1a : ¬ (s.size : Int) < 1 := by omega
      have h2a : (32 : Int) < (s.size : Int) := by omega
      rw [hn]
      clear hn
      go_enter Try.func71, Try.ntmps71
      go_wp2_with fail
      go_ret
      exact ⟨rfl, rfl⟩
    · have h1a : ¬ (s.size : Int) < 1 := by omega
      have h2a : ¬ (32 : Int) < (s.size : Int) := by omega
      obtain ⟨res, hres⟩ : ∃ b, b = nameB s := ⟨_, rfl⟩
      rw [← hres]
      have HRES := Lib.hid hres
      clear hres
      go_enter Try.func71, Try.ntmps71
      go_wp2_with fail
      go_loopw [3] (fun iv wr => ∃ i : Nat, i ≤ s.size ∧ iv = .int .i64 (i : Int) ∧ namesTo s i = true ∧ w = wr) (fun iv _ => s.size - (intOf iv).toNat)
      case atStart => exact ⟨0, Nat.zero_le _, rfl, names_nil s, rfl⟩
      case round =>
        obtain ⟨i, hi, rfl, ht, rfl⟩ := hrel
        have HT := Lib.hid ht
        clear ht
        by_cases hlt : i < s.size
        · have hlt2 : (i : Int) < (s.size : Int) := by omega
          have hst := names_step hlt HT.out
          obtain ⟨c, hc⟩ : ∃ c, c = s[i]'hlt := ⟨_, rfl⟩
          have hc2 := hc
          have hcn := UInt8.toNat_lt c
          rw [← hc] at hst
          obtain ⟨lb, hlb⟩ : ∃ b, b = letterB c := ⟨_, rfl⟩
          obtain ⟨db, hdb⟩ : ∃ b, b = digitB c := ⟨_, rfl⟩
          rw [← hlb, ← hdb] at hst
          have HLB := Lib.hid hlb
          have HDB := Lib.hid hdb
          have HST := Lib.hid hst
          clear hst hlb hdb hc2
          go_upto_region 7 with (fail)
          rw [← hc]
          clear hc
          go_cut [5] from 15 to 57 (fun s5 w' => s5 = .bool lb ∧ w' = w)
          case first =>
            go_wp2_with fail
            all_goals go_meet
            all_goals exact ⟨bool_eq (HLB.out.symm ▸ (by unfold letterB; rw [Bool.eq_iff_iff]; simp; omega)), rfl⟩
          case rest =>
            obtain ⟨rfl, rfl⟩ := hcut
            go_upto_region 8 with (fail)
            go_cut [6] from 15 to 57 (fun s6 w' => s6 = .bool db ∧ w' = wc)
            case first =>
              go_wp2_with fail
              all_goals go_meet
              all_goals exact ⟨bool_eq (HDB.out.symm ▸ (by unfold digitB; rw [Bool.eq_iff_iff]; simp; omega)), rfl⟩
            case rest =>
              obtain ⟨rfl, rfl⟩ := hcut
              have hi0 : decide (i = 0) = ((i : Int) == 0) := by rw [Bool.eq_iff_iff]; simp
              obtain ⟨zb, hzb⟩ : ∃ b, ((i : Int) == 0) = b := ⟨_, rfl⟩
              have hst := HST.out
              rw [hi0, hzb] at hst
              have HST := Lib.hid hst
              clear hst hi0 hcn
              cases lb <;> cases db <;> cases zb
              all_goals go_wp2_with fail
              all_goals first
                | (go_roundw
                   case rel => exact ⟨i + 1, by omega, by go_num, HST.out, by trivial⟩
                   case measure => simp [intOf]; omega)
                | (go_ret
                   exact ⟨ret_bool (HRES.out.trans (names_no (Nat.succ_pos i) hlt HST.out)).symm, rfl⟩)
        · obtain rfl : i = s.size := by omega
          have hlt2 : ¬ ((s.size : Int) < (s.size : Int)) := by omega
          have hne := names_end HT.out (by omega) (by omega)
          have HNE := Lib.hid (HRES.out.trans hne)
          clear hne
          go_wp2_with fail
          go_ret
          exact ⟨ret_bool HNE.out.symm, rfl⟩
end Go.Proofs.Ytjeljlgjkjeloaa
/- heronref05.node: both cases. -/
namespace Go.Proofs.Ytjeljlgjkjeloaa
open Go.RowKit Go.Proofs.Ytjeljlgjkjeloaa.Tr

theorem ref_ways (k : Int) (r : List (Int × Int)) (a : Int) (q : Nat) (n m : Int) (z : Bool) (i : Int) (s : ByteArray) :
    ((k == 1) = true → nodeF k r a q n m z i s = bareB false false false false false r a q n m z i s) ∧
    ((k == 2) = true → nodeF k r a q n m z i s = (rightB r && bareB true false false false false r a q n m z i s)) ∧
    ((k == 3) = true → nodeF k r a q n m z i s = (assertB a && bareB false true false false false r a q n m z i s)) ∧
    ((k == 4) = true → nodeF k r a q n m z i s = (decide ((2 : Int) ≤ (q : Int)) && bareB false false true false false r a q n m z i s)) ∧
    ((k == 5) = true → nodeF k r a q n m z i s = (decide ((2 : Int) ≤ (q : Int)) && bareB false false true false false r a q n m z i s)) ∧
    ((k == 6) = true → nodeF k r a q n m z i s = (((q : Int) == 1) && (decide (0 ≤ n) && (decide (n ≤ 1000) && (((m == -1) || (decide (n ≤ m) && decide (m ≤ 1000))) && bareB false false true true false r a q n m z i s))))) ∧
    ((k == 7) = true → nodeF k r a q n m z i s = (((q : Int) == 1) && (decide (1 ≤ i) && (decide (i ≤ 500) && ((s.toList.isEmpty || nameB s) && bareB false false true false true r a q n m z i s))))) := by
  obtain ⟨g1, g2, g3, g4, g5, g6, g7, -⟩ := node_ways k r a q n m z i s rfl rfl rfl
  rw [← asS_list] at g3
  unfold bareB
  refine ⟨fun h => ?_, fun h => ?_, fun h => ?_, fun h => ?_, fun h => ?_, fun h => ?_, fun h => ?_⟩
  · rw [g1 h]
    generalize ((r.length : Int) == 0) = x1, (a == 0) = x2, (n == 0) = x3, (m == 0) = x4, (i == 0) = x5, s.toList.isEmpty = x6, ((q : Int) == 0) = x7
    cases x1 <;> cases x2 <;> cases x3 <;> cases x4 <;> cases z <;> cases x5 <;> cases x6 <;> cases x7 <;> rfl
  · rw [g2 h]
    generalize (a == 0) = x2, (n == 0) = x3, (m == 0) = x4, (i == 0) = x5, s.toList.isEmpty = x6, ((q : Int) == 0) = x7, rightB r = x8
    cases x2 <;> cases x3 <;> cases x4 <;> cases z <;> cases x5 <;> cases x6 <;> cases x7 <;> cases x8 <;> rfl
  · rw [g3 h]
    generalize ((r.length : Int) == 0) = x2, (n == 0) = x3, (m == 0) = x4, (i == 0) = x5, s.toList.isEmpty = x6, ((q : Int) == 0) = x7, assertB a = x8
    cases x2 <;> cases x3 <;> cases x4 <;> cases z <;> cases x5 <;> cases x6 <;> cases x7 <;> cases x8 <;> rfl
  · rw [g4 h]
    generalize ((r.length : Int) == 0) = x1, (a == 0) = x2, (n == 0) = x3, (m == 0) = x4, (i == 0) = x5, s.toList.isEmpty = x6, decide ((2 : Int) ≤ (q : Int)) = x7
    cases x1 <;> cases x2 <;> cases x3 <;> cases x4 <;> cases z <;> cases x5 <;> cases x6 <;> cases x7 <;> rfl
  · rw [g5 h]
    generalize ((r.length : Int) == 0) = x1, (a == 0) = x2, (n == 0) = x3, (m == 0) = x4, (i == 0) = x5, s.toList.isEmpty = x6, decide ((2 : Int) ≤ (q : Int)) = x7
    cases x1 <;> cases x2 <;> cases x3 <;> cases x4 <;> cases z <;> cases x5 <;> cases x6 <;> cases x7 <;> rfl
  · rw [g6 h]
    generalize ((r.length : Int) == 0) = x1, (a == 0) = x2, (i == 0) = x5, s.toList.isEmpty = x6, ((q : Int) == 1) = x7, ((m == -1) || (decide (n ≤ m) && decide (m ≤ 1000))) = x8, decide (0 ≤ n) = x3, decide (n ≤ 1000) = x4
    cases x1 <;> cases x2 <;> cases x3 <;> cases x4 <;> cases x5 <;> cases x6 <;> cases x7 <;> cases x8 <;> rfl
  · rw [g7 h]
    generalize ((r.length : Int) == 0) = x1, (a == 0) = x2, (n == 0) = x3, (m == 0) = x4, ((q : Int) == 1) = x7, (s.toList.isEmpty || nameB s) = x8, decide (1 ≤ i) = x5, decide (i ≤ 500) = x6
    cases x1 <;> cases x2 <;> cases x3 <;> cases x4 <;> cases z <;> cases x5 <;> cases x6 <;> cases x7 <;> cases x8 <;> rfl
set_option maxRecDepth 100000 in
set_option maxHeartbeats 4000000 in
theorem rnode_any (t : Ta) (S : Nat → Prop) (w : World) (h : RT w S t) (hS : ∀ b, S b → b < w.heap.size) :
    Calls Try.prog 58 #[t.val] w fun e w' => e = .returned (.bool (nodeB t.tr)) ∧ Below w.heap.size w w' := by
  cases t with
  | mk k r ra rc ast l sa sc mn mx z ix nm =>
  have hnw := ref_ways k r ast l.length mn mx z ix nm
  have hn0 := (node_ways k r ast l.length mn mx z ix nm rfl rfl rfl).2.2.2.2.2.2.2
  have hnb : nodeB (Ta.mk k r ra rc ast l sa sc mn mx z ix nm).tr = nodeF k r ast l.length mn mx z ix nm := by rw [Ta.tr, nodeB, trs_length]
  rw [hnb]
  clear hnb
  obtain ⟨⟨hR, hrl, hll, hnm⟩, -, -⟩ := h.parts
  have HNW := Lib.hid hnw
  have HN0 := Lib.hid hn0
  have hb0 : Below w.heap.size w (w.alloc (.cells #[.int .i64 k, .slice ra r.length rc, .int .i64 ast, .slice sa l.length sc, .int .i64 mn, .int .i64 mx, .bool z, .int .i64 ix, .string nm] 28)) := (Below.refl _ _).alloc (Nat.le_refl _) _
  have HRT := Lib.hid (refRight_any ra r.length rc w.heap.size r (w.alloc (.cells #[.int .i64 k, .slice ra r.length rc, .int .i64 ast, .slice sa l.length sc, .int .i64 mn, .int .i64 mx, .bool z, .int .i64 ix, .string nm] 28)) ((hR.reads hS).below hb0))
  have HB0 := Lib.hid hb0
  have HBR := Lib.hid (fun f1 f2 f3 f4 f5 hf u => bare_any f1 f2 f3 f4 f5 hf k r ra rc ast l sa sc mn mx z ix nm u hrl hll)
  obtain ⟨res, hres⟩ : ∃ b, b = nodeF k r ast l.length mn mx z ix nm := ⟨_, rfl⟩
  rw [← hres] at HNW HN0 ⊢
  clear hnw hn0 hres h hR hS hb0
  have hways : (k == 1) = true ∨ ((k == 1) = false ∧ (k == 2) = true) ∨ ((k == 1) = false ∧ (k == 2) = false ∧ (k == 3) = true) ∨ ((k == 1) = false ∧ (k == 2) = false ∧ (k == 3) = false ∧ (k == 4) = true ∧ (k == 5) = false) ∨ ((k == 1) = false ∧ (k == 2) = false ∧ (k == 3) = false ∧ (k == 4) = false ∧ (k == 5) = true) ∨ ((k == 1) = false ∧ (k == 2) = false ∧ (k == 3) = false ∧ (k == 4) = false ∧ (k == 5) = false ∧ (k == 6) = true) ∨ ((k == 1) = false ∧ (k == 2) = false ∧ (k == 3) = false ∧ (k == 4) = false ∧ (k == 5) = false ∧ (k == 6) = false ∧ (k == 7) = true) ∨ ((k == 1) = false ∧ (k == 2) = false ∧ (k == 3) = false ∧ (k == 4) = false ∧ (k == 5) = false ∧ (k == 6) = false ∧ (k == 7) = false) := by
    simp only [beq_iff_eq, beq_eq_false_iff_ne]; omega
  simp only [Ta.val, Ta.vals] at HBR ⊢
  rcases hways with h1 | ⟨h1, h2⟩ | ⟨h1, h2, h3⟩ | ⟨h1, h2, h3, h4, h5⟩ | ⟨h1, h2, h3, h4, h5⟩ | ⟨h1, h2, h3, h4, h5, h6⟩ | ⟨h1, h2, h3, h4, h5, h6, h7⟩ | ⟨h1, h2, h3, h4, h5, h6, h7⟩
  · have hn := HNW.out.1 h1
    clear HNW HN0
    have hbr := fun u => Lib.hid (HBR.out false false false false false (by simp) u)
    obtain ⟨bb, hbb⟩ : ∃ b, b = bareB false false false false false r ast l.length mn mx z ix nm := ⟨_, rfl⟩
    rw [← hbb] at hn
    simp only [← hbb] at hbr
    clear hbb
    have HN := Lib.hid hn
    clear hn
    all_goals go_enter Try.func58, Try.ntmps58
    all_goals go_wp2_with (go_at_call 68; refine (hbr _).out.mono ?_; rintro e w4 ⟨rfl, hb4⟩; have HB4 := Lib.hid hb4; clear hb4; simp only [])
    all_goals go_ret
    all_goals first
      | exact ⟨ret_bool (HN.out.trans (by first | rfl | (simp [*]; done) | (simp [*]; omega))).symm, HB0.out.trans (HB4.out.mono HB0.out.size)⟩
      | exact ⟨ret_bool (HN.out.trans (by first | rfl | (simp [*]; done) | (simp [*]; omega))).symm, HB0.out⟩
  · have hn := HNW.out.2.1 h2
    clear HNW HN0
    have hbr := fun u => Lib.hid (HBR.out true false false false false (by simp) u)
    obtain ⟨bb, hbb⟩ : ∃ b, b = bareB true false false false false r ast l.length mn mx z ix nm := ⟨_, rfl⟩
    rw [← hbb] at hn
    simp only [← hbb] at hbr
    clear hbb
    obtain ⟨b0, hb0⟩ : ∃ b, rightB r = b := ⟨_, rfl⟩
    simp only [hb0] at hn
    have HN := Lib.hid hn
    clear hn
    cases b0
    all_goals go_enter Try.func58, Try.ntmps58
    all_goals go_wp2_with (first | (go_at_call 69; refine HRT.out.mono ?_; rintro e w3 ⟨rfl, mm, rfl⟩; simp only [hb0]) | (go_at_call 68; refine (hbr _).out.mono ?_; rintro e w4 ⟨rfl, hb4⟩; have HB4 := Lib.hid hb4; clear hb4; simp only []))
    all_goals go_ret
    all_goals first
      | exact ⟨ret_bool (HN.out.trans (by first | rfl | (simp [*]; done) | (simp [*]; omega))).symm, (bdrewN HB0.out mm).trans (HB4.out.mono (bdrewN HB0.out mm).size)⟩
      | exact ⟨ret_bool (HN.out.trans (by first | rfl | (simp [*]; done) | (simp [*]; omega))).symm, (bdrewN HB0.out mm)⟩
  · have hn := HNW.out.2.2.1 h3
    clear HNW HN0
    have hbr := fun u => Lib.hid (HBR.out false true false false false (by simp) u)
    obtain ⟨bb, hbb⟩ : ∃ b, b = bareB false true false false false r ast l.length mn mx z ix nm := ⟨_, rfl⟩
    rw [← hbb] at hn
    simp only [← hbb] at hbr
    clear hbb
    obtain ⟨b0, hb0⟩ : ∃ b, assertB ast = b := ⟨_, rfl⟩
    simp only [hb0] at hn
    have HN := Lib.hid hn
    clear hn
    cases b0
    all_goals go_enter Try.func58, Try.ntmps58
    all_goals go_wp2_with (first | (go_at_call 70; refine (rAssertion_any ast _).mono ?_; rintro e w3 ⟨rfl, rfl⟩; simp only [hb0]) | (go_at_call 68; refine (hbr _).out.mono ?_; rintro e w4 ⟨rfl, hb4⟩; have HB4 := Lib.hid hb4; clear hb4; simp only []))
    all_goals go_ret
    all_goals first
      | exact ⟨ret_bool (HN.out.trans (by first | rfl | (simp [*]; done) | (simp [*]; omega))).symm, HB0.out.trans (HB4.out.mono HB0.out.size)⟩
      | exact ⟨ret_bool (HN.out.trans (by first | rfl | (simp [*]; done) | (simp [*]; omega))).symm, HB0.out⟩
  · have hn := HNW.out.2.2.2.1 h4
    clear HNW HN0
    have hbr := fun u => Lib.hid (HBR.out false false true false false (by simp) u)
    obtain ⟨bb, hbb⟩ : ∃ b, b = bareB false false true false false r ast l.length mn mx z ix nm := ⟨_, rfl⟩
    rw [← hbb] at hn
    simp only [← hbb] at hbr
    clear hbb
    have HN := Lib.hid hn
    clear hn
    all_goals go_enter Try.func58, Try.ntmps58
    all_goals go_wp2_with (go_at_call 68; refine (hbr _).out.mono ?_; rintro e w4 ⟨rfl, hb4⟩; have HB4 := Lib.hid hb4; clear hb4; simp only [])
    all_goals go_ret
    all_goals first
      | exact ⟨ret_bool (HN.out.trans (by first | rfl | (simp [*]; done) | (simp [*]; omega))).symm, HB0.out.trans (HB4.out.mono HB0.out.size)⟩
      | exact ⟨ret_bool (HN.out.trans (by first | rfl | (simp [*]; done) | (simp [*]; omega))).symm, HB0.out⟩
  · have hn := HNW.out.2.2.2.2.1 h5
    clear HNW HN0
    have hbr := fun u => Lib.hid (HBR.out false false true false false (by simp) u)
    obtain ⟨bb, hbb⟩ : ∃ b, b = bareB false false true false false r ast l.length mn mx z ix nm := ⟨_, rfl⟩
    rw [← hbb] at hn
    simp only [← hbb] at hbr
    clear hbb
    have HN := Lib.hid hn
    clear hn
    all_goals go_enter Try.func58, Try.ntmps58
    all_goals go_wp2_with (go_at_call 68; refine (hbr _).out.mono ?_; rintro e w4 ⟨rfl, hb4⟩; have HB4 := Lib.hid hb4; clear hb4; simp only [])
    all_goals go_ret
    all_goals first
      | exact ⟨ret_bool (HN.out.trans (by first | rfl | (simp [*]; done) | (simp [*]; omega))).symm, HB0.out.trans (HB4.out.mono HB0.out.size)⟩
      | exact ⟨ret_bool (HN.out.trans (by first | rfl | (simp [*]; done) | (simp [*]; omega))).symm, HB0.out⟩
  · have hn := HNW.out.2.2.2.2.2.1 h6
    clear HNW HN0
    have hbr := fun u => Lib.hid (HBR.out false false true true false (by simp) u)
    obtain ⟨bb, hbb⟩ : ∃ b, b = bareB false false true true false r ast l.length mn mx z ix nm := ⟨_, rfl⟩
    rw [← hbb] at hn
    simp only [← hbb] at hbr
    clear hbb
    obtain ⟨b0, hb0⟩ : ∃ b, ((l.length : Int) == 1) = b := ⟨_, rfl⟩
    obtain ⟨b1, hb1⟩ : ∃ b, (mx == -1) = b := ⟨_, rfl⟩
    simp only [hb0, hb1] at hn
    have HN := Lib.hid hn
    clear hn
    cases b0 <;> cases b1
    all_goals go_enter Try.func58, Try.ntmps58
    all_goals go_wp2_with (go_at_call 68; refine (hbr _).out.mono ?_; rintro e w4 ⟨rfl, hb4⟩; have HB4 := Lib.hid hb4; clear hb4; simp only [])
    all_goals go_ret
    all_goals first
      | exact ⟨ret_bool (HN.out.trans (by first | rfl | (simp [*]; done) | (simp [*]; omega))).symm, HB0.out.trans (HB4.out.mono HB0.out.size)⟩
      | exact ⟨ret_bool (HN.out.trans (by first | rfl | (simp [*]; done) | (simp [*]; omega))).symm, HB0.out⟩
  · have hn := HNW.out.2.2.2.2.2.2 h7
    clear HNW HN0
    have hbr := fun u => Lib.hid (HBR.out false false true false true (by simp) u)
    obtain ⟨bb, hbb⟩ : ∃ b, b = bareB false false true false true r ast l.length mn mx z ix nm := ⟨_, rfl⟩
    rw [← hbb] at hn
    simp only [← hbb] at hbr
    clear hbb
    obtain ⟨b0, hb0⟩ : ∃ b, ((l.length : Int) == 1) = b := ⟨_, rfl⟩
    obtain ⟨b1, hb1⟩ : ∃ b, nm.toList.isEmpty = b := ⟨_, rfl⟩
    obtain ⟨b2, hb2⟩ : ∃ b, nameB nm = b := ⟨_, rfl⟩
    simp only [hb0, hb1, hb2] at hn
    have HN := Lib.hid hn
    clear hn
    cases b0 <;> cases b1 <;> cases b2
    all_goals go_enter Try.func58, Try.ntmps58
    all_goals go_wp2_with (first | (go_at_call 71; refine (rName_any nm _ hnm).mono ?_; rintro e w3 ⟨rfl, rfl⟩; simp only [hb2]) | (go_at_call 68; refine (hbr _).out.mono ?_; rintro e w4 ⟨rfl, hb4⟩; have HB4 := Lib.hid hb4; clear hb4; simp only []))
    all_goals go_ret
    all_goals first
      | exact ⟨ret_bool (HN.out.trans (by first | rfl | (simp [*]; done) | (simp [*]; omega))).symm, HB0.out.trans (HB4.out.mono HB0.out.size)⟩
      | exact ⟨ret_bool (HN.out.trans (by first | rfl | (simp [*]; done) | (simp [*]; omega))).symm, HB0.out⟩
  · have hn := HN0.out h1 h2 h3 h4 h5 h6 h7
    clear HNW HN0
    have HN := Lib.hid hn
    clear hn
    all_goals go_enter Try.func58, Try.ntmps58
    all_goals go_wp2_with fail
    all_goals go_ret
    all_goals first
      | exact ⟨ret_bool (HN.out.trans (by first | rfl | (simp [*]; done) | (simp [*]; omega))).symm, HB0.out.trans (HB4.out.mono HB0.out.size)⟩
      | exact ⟨ret_bool (HN.out.trans (by first | rfl | (simp [*]; done) | (simp [*]; omega))).symm, HB0.out⟩
end Go.Proofs.Ytjeljlgjkjeloaa
/- heronref05.count, heronref05.Sound: both cases. -/
namespace Go.Proofs.Ytjeljlgjkjeloaa
open Go.RowKit Go.Proofs.Ytjeljlgjkjeloaa.Tr

/-- How many are left behind a tree; -1: it may not be. -/
def leftS (t : Tr.Tr) (d left : Int) : Int := if okB t d left = true then left - (size t : Nat) else -1
set_option maxRecDepth 100000 in
set_option maxHeartbeats 2000000 in
theorem rcount_any : ∀ (t : Ta) (S : Nat → Prop) (w : World) (d left : Int), RT w S t → (∀ b, S b → b < w.heap.size) → 0 ≤ left → left ≤ 200000 → 1 ≤ d → d ≤ 10001 →
    Calls Try.prog 39 #[t.val, .int .i64 left, .int .i64 d] w fun e w' => e = .returned (.int .i64 (leftS t.tr d left)) ∧ Below w.heap.size w w' := by
  intro t
  induction t using Ta.ind with
  | h t ih =>
    intro S w d left h hS h0 h1 hd0 hd1
    cases t with
    | mk k r ra rc ast l sa sc mn mx z ix nm =>
    obtain ⟨⟨hR, hrl, hll, hnm⟩, hN, hL⟩ := h.parts
    have hsc := hN.1
    have hsc2 := hN.2.1
    have hb0 : Below w.heap.size w (w.alloc (.cells #[.int .i64 k, .slice ra r.length rc, .int .i64 ast, .slice sa l.length sc, .int .i64 mn, .int .i64 mx, .bool z, .int .i64 ix, .string nm] 28)) := (Below.refl _ _).alloc (Nat.le_refl _) _
    have HBL := Lib.hid (Blk.new w 28 [.int .i64 k, .slice ra r.length rc, .int .i64 ast, .slice sa l.length sc, .int .i64 mn, .int .i64 mx, .bool z, .int .i64 ix, .string nm])
    have HPN := Lib.hid (rnode_any (Ta.mk k r ra rc ast l sa sc mn mx z ix nm) S (w.alloc (.cells #[.int .i64 k, .slice ra r.length rc, .int .i64 ast, .slice sa l.length sc, .int .i64 mn, .int .i64 mx, .bool z, .int .i64 ix, .string nm] 28)) (h.below hS hb0) (fun b hb => Nat.lt_of_lt_of_le (hS b hb) hb0.size))
    have hok := ok_iff (k := k) (r := r) (a := ast) (l := trs l) (n := mn) (m := mx) (z := z) (i := ix) (s := nm) (d := d) (left := left)
    have hsz : (size (Ta.mk k r ra rc ast l sa sc mn mx z ix nm).tr : Int) = ((sizes (trs l) : Nat) : Int) + 1 := by rw [Ta.tr, size_mk]; omega
    obtain ⟨nb, hnb⟩ : ∃ b, b = nodeB (Ta.mk k r ra rc ast l sa sc mn mx z ix nm).tr := ⟨_, rfl⟩
    rw [← hnb] at HPN
    rw [show (Tr.Tr.mk k r ast (trs l) mn mx z ix nm) = (Ta.mk k r ra rc ast l sa sc mn mx z ix nm).tr from by rw [Ta.tr], ← hnb] at hok
    have hbi := okB_iff (Ta.mk k r ra rc ast l sa sc mn mx z ix nm).tr d left
    have HOK := Lib.hid hok
    have HSZ := Lib.hid hsz
    have HB0 := Lib.hid hb0
    have HIH := Lib.hid ih
    have HN := Lib.hid hN
    have HL := Lib.hid hL
    have HSS := Lib.hid hS
    have HBI := Lib.hid hbi
    have HDP := Lib.hid (deep_pos (Ta.mk k r ra rc ast l sa sc mn mx z ix nm).tr)
    clear hok hsz hb0 ih hN hL hS h hR hnb hbi
    generalize (Ta.mk k r ra rc ast l sa sc mn mx z ix nm).tr = T at *
    have no : ¬ OK T d left → leftS T d left = -1 := fun hn => by
      unfold leftS
      rw [if_neg fun h => hn (HBI.out.1 h)]
    have yes : OK T d left → leftS T d left = left - (size T : Nat) := fun hn => by
      unfold leftS
      rw [if_pos (HBI.out.2 hn)]
    obtain ⟨res, hres⟩ : ∃ x, x = leftS T d left := ⟨_, rfl⟩
    rw [← hres] at no yes ⊢
    have NO := Lib.hid no
    have YES := Lib.hid yes
    clear no yes hres
    simp only [Ta.val, Ta.vals] at HPN ⊢
    by_cases hd : 10000 < d
    · have HNO := Lib.hid (NO.out fun h => by have := h.2.1; have := HDP.out; omega)
      cases nb
      all_goals
        go_enter Try.func39, Try.ntmps39
        go_wp2_with (go_at_call 58; refine HPN.out.mono ?_; rintro e w2 ⟨rfl, hb2⟩; have HB2 := Lib.hid (HB0.out.trans (hb2.mono HB0.out.size)); clear hb2; simp only [])
        go_ret
        exact ⟨ret_int HNO.out.symm, HB2.out⟩
    · cases nb with
      | false =>
        have HNO := Lib.hid (NO.out fun h => by have := (HOK.out.1 h).1; cases this)
        go_enter Try.func39, Try.ntmps39
        go_wp2_with (go_at_call 58; refine HPN.out.mono ?_; rintro e w2 ⟨rfl, hb2⟩; have HB2 := Lib.hid (HB0.out.trans (hb2.mono HB0.out.size)); clear hb2; simp only [])
        go_ret
        exact ⟨ret_int HNO.out.symm, HB2.out⟩
      | true =>
        go_enter Try.func39, Try.ntmps39
        go_wp2_with (go_at_call 58; refine HPN.out.mono ?_; rintro e w2 ⟨rfl, hb2⟩; have HB2 := Lib.hid (HB0.out.trans (hb2.mono HB0.out.size)); have HN2 := Lib.hid (HBL.out.below hb2 HBL.out.lt); clear hb2; simp only [])
        go_loopw [1, 8] (fun lv iv wr => ∃ (i : Nat) (lf : Int), i ≤ l.length ∧ iv = .int .i64 (i : Int) ∧ lv = .int .i64 lf ∧ ((0 ≤ lf ∧ OKs ((trs l).take i) d (left - 1) ∧ lf = left - 1 - (sizes ((trs l).take i) : Nat)) ∨ (lf = -1 ∧ ¬ OK T d left)) ∧ Below w2.heap.size w2 wr) (fun _ iv _ => l.length - (intOf iv).toNat)
        case atStart =>
          refine ⟨0, left - 1, Nat.zero_le _, rfl, rfl, ?_, Below.refl _ _⟩
          by_cases hl1 : 0 ≤ left - 1
          · exact .inl ⟨hl1, oks_nil (by omega) hl1, by simp [sizes]⟩
          · exact .inr ⟨by omega, fun h => by have := h.2.2; have := HSZ.out; omega⟩
        case round =>
          obtain ⟨i, lf, hi, rfl, rfl, hor, hb⟩ := hrel
          have HB := Lib.hid hb
          have r3 : wr.cell? ⟨w.heap.size, 3, none⟩ = some (.slice sa l.length sc) := (HN2.out.below hb HN2.out.lt).cell 3
          have r9 := (HN2.out.below hb HN2.out.lt).lt
          clear hb
          rcases hor with ⟨hl3, hoks, hlf⟩ | ⟨hlf, hno⟩
          · have hl4 : lf ≤ 200000 := by have := hoks.2.2; omega
            have HOS := Lib.hid hoks
            have HLF := Lib.hid hlf
            clear hoks hlf
            by_cases hlt1 : i < l.length
            · have hlt2 : (i : Int) < (l.length : Int) := by omega
              obtain ⟨b, off, rfl, hSb, _⟩ := HN.out.2.2.2.2 (by omega)
              obtain ⟨u, hu⟩ : ∃ u, l[i]? = some u := ⟨_, List.getElem?_eq_getElem hlt1⟩
              have hum : u ∈ l := List.mem_of_getElem? hu
              have hbb := HSS.out b hSb
              have hBW := HB2.out.trans (HB.out.mono HB2.out.size)
              have hcell : ∀ j, j < 9 → wr.cell? ⟨b, off + i * 9 + j, none⟩ = u.vals[j]? := fun j hj => by
                rw [Nat.add_assoc]
                rw [← HN.out.node hu hj]
                exact (hBW.cell (p := ⟨b, off + (i * 9 + j), none⟩) hbb)
              have hRK := HIH.out u hum S wr (d + 1) lf ((HL.out u hum).below HSS.out hBW) (fun b hb => Nat.lt_of_lt_of_le (HSS.out b hb) hBW.size) hl3 hl4 (by omega) (by omega)
              have hst := oks_take (take_map hu) HOS.out
              rw [← HLF.out] at hst
              have hsz := sizes_take hu
              have hbi := okB_iff u.tr (d + 1) lf
              have hls : leftS u.tr (d + 1) lf = if okB u.tr (d + 1) lf = true then lf - (size u.tr : Nat) else -1 := rfl
              have htk : (trs l).take i = trs (l.take i) ∧ (trs l).take (i + 1) = trs (l.take (i + 1)) := by rw [trs_map, trs_map, trs_map, List.map_take, List.map_take]; exact ⟨rfl, rfl⟩
              rw [← htk.1, ← htk.2] at hsz
              clear hbb hBW htk
              obtain ⟨du, hdu⟩ : ∃ q, q = size u.tr := ⟨_, rfl⟩
              obtain ⟨ub, hub⟩ : ∃ q, q = okB u.tr (d + 1) lf := ⟨_, rfl⟩
              obtain ⟨ur, hur⟩ : ∃ q, q = leftS u.tr (d + 1) lf := ⟨_, rfl⟩
              rw [← hdu] at hls hsz
              rw [← hub] at hls hbi
              rw [← hur] at hls hRK
              have HST := Lib.hid (hst.trans hbi.symm)
              have HZ := Lib.hid hsz
              have HLS := Lib.hid hls
              clear hdu hub hst hbi hsz hur hls
              cases u with
              | mk k' r' ra' rc' a' l' sa' sc' n' m' z' i' s' =>
              simp only [Ta.vals] at hcell
              simp only [Ta.val, Ta.vals] at hRK
              have c0 := hcell 0 (by omega)
              have c1 := hcell 1 (by omega)
              have c2 := hcell 2 (by omega)
              have c3 := hcell 3 (by omega)
              have c4 := hcell 4 (by omega)
              have c5 := hcell 5 (by omega)
              have c6 := hcell 6 (by omega)
              have c7 := hcell 7 (by omega)
              have c8 := hcell 8 (by omega)
              simp only [List.getElem?_cons_zero, List.getElem?_cons_succ, Nat.add_zero] at c0 c1 c2 c3 c4 c5 c6 c7 c8
              have HIN := Lib.hid hRK
              clear hcell hu hum hRK
              go_wp2_with (go_at_call 39; refine HIN.out.mono ?_; rintro e w5 ⟨rfl, hb5⟩; have HB5 := Lib.hid hb5; clear hb5; simp only [])
              go_roundw
              case rel =>
                refine ⟨i + 1, ur, by omega, by go_num, rfl, ?_, HB.out.trans (HB5.out.mono HB.out.size)⟩
                cases ub with
                | true =>
                  have e1 : ur = lf - (du : Nat) := HLS.out.trans (if_pos rfl)
                  have g := HST.out.2 rfl
                  refine .inl ⟨?_, g, ?_⟩
                  · have e2 := g.2.2; have e3 := HLF.out; have e4 := HZ.out; omega
                  · have e3 := HLF.out; have e4 := HZ.out; omega
                | false =>
                  have e1 : ur = -1 := HLS.out.trans (if_neg (by simp))
                  exact .inr ⟨e1, fun h => by have := HST.out.1 (oks_of ((HOK.out.1 h).2)); cases this⟩
              case measure => simp [intOf]; omega
            · obtain rfl : i = l.length := by omega
              have hlt2 : ¬ ((l.length : Int) < (l.length : Int)) := by omega
              have htl : (trs l).take l.length = trs l := by rw [← trs_length l, List.take_length]
              have hyes : OK T d left := HOK.out.2 ⟨by trivial, htl ▸ HOS.out⟩
              have hlz : res = lf := by rw [YES.out hyes, HLF.out, HSZ.out, htl]; omega
              have HLZ := Lib.hid hlz
              clear hlz hyes htl
              go_wp2_with fail
              go_ret
              exact ⟨ret_int HLZ.out.symm, HB2.out.trans (HB.out.mono HB2.out.size)⟩
          · have hng : ¬ (0 ≤ lf) := by omega
            have HLZ := Lib.hid ((NO.out hno).trans hlf.symm)
            clear hno hlf
            by_cases hlt1 : i < l.length
            · have hlt2 : (i : Int) < (l.length : Int) := by omega
              go_wp2_with fail
              go_ret
              exact ⟨ret_int HLZ.out.symm, HB2.out.trans (HB.out.mono HB2.out.size)⟩
            · have hlt2 : ¬ ((i : Int) < (l.length : Int)) := by omega
              go_wp2_with fail
              go_ret
              exact ⟨ret_int HLZ.out.symm, HB2.out.trans (HB.out.mono HB2.out.size)⟩
set_option maxRecDepth 100000 in
set_option maxHeartbeats 1000000 in
theorem rSound_any (t : Ta) (S : Nat → Prop) (w : World) (h : RT w S t) (hS : ∀ b, S b → b < w.heap.size) :
    Calls Try.prog 20 #[t.val] w fun e w' => e = .returned (sv t.tr) ∧ Below w.heap.size w w' := by
  have hb0 : Below w.heap.size w (w.alloc (.cells t.vals.toArray 28)) := (Below.refl _ _).alloc (Nat.le_refl _) _
  have HC1 := Lib.hid (rcount_any t S w 1 200000 h hS (by omega) (by omega) (by omega) (by omega))
  have HC2 := Lib.hid (rcount_any t S (w.alloc (.cells t.vals.toArray 28)) 1 200000 (h.below hS hb0) (fun b hb => Nat.lt_of_lt_of_le (hS b hb) hb0.size) (by omega) (by omega) (by omega) (by omega))
  have hl : (0 ≤ leftS t.tr 1 200000 ∧ leftS t.tr 1 200000 ≤ 200000 ∧ soundB t.tr = true) ∨ (leftS t.tr 1 200000 = -1 ∧ soundB t.tr = false) := by
    unfold leftS
    have := okB_iff t.tr 1 200000
    rw [okB_sound] at this ⊢
    cases hs : soundB t.tr with
    | true => rw [if_pos rfl]; exact .inl ⟨by have := (this.1 hs).2.2; omega, by omega, rfl⟩
    | false => exact .inr ⟨if_neg (by simp), rfl⟩
  have hsv : sv t.tr = .int .i64 (if soundB t.tr = true then 0 else 50) := rfl
  rw [hsv]
  have HB0 := Lib.hid hb0
  clear h hS hsv hb0
  obtain ⟨b, hb⟩ : ∃ b, b = soundB t.tr := ⟨_, rfl⟩
  obtain ⟨lf, hlf⟩ : ∃ b, b = leftS t.tr 1 200000 := ⟨_, rfl⟩
  rw [← hb] at hl ⊢
  rw [← hlf] at hl HC1 HC2
  clear hb hlf
  cases t with
  | mk k r ra rc ast l sa sc mn mx z ix nm =>
  simp only [Ta.val, Ta.vals] at HC1 HC2 HB0 ⊢
  rcases hl with ⟨hl1, hl2, rfl⟩ | ⟨rfl, rfl⟩
  all_goals
    go_enter Try.func20, Try.ntmps20
    go_wp2_with (go_at_call 39; first | (refine HC2.out.mono ?_; rintro e w5 ⟨rfl, hb5⟩; have HB5 := Lib.hid (HB0.out.trans (hb5.mono HB0.out.size)); clear hb5; simp only []) | (refine HC1.out.mono ?_; rintro e w5 ⟨rfl, hb5⟩; have HB5 := Lib.hid hb5; clear hb5; simp only []))
    go_ret
    exact ⟨rfl, HB5.out⟩
end Go.Proofs.Ytjeljlgjkjeloaa
