/- heronref01.Decode -/
import Derived.Test.YtgljhhlnnedmaaaDoorRefBytes
import Derived.Deep.RegionWith
namespace Go.Proofs.YtgljhhlnnedmaaaDoor
open Go.RowKit

def refOk (bs : List Int) (n : Nat) : Bool := decide (n ≤ bs.length) && (dom (valueOf (bs.take n)) && (encB (valueOf (bs.take n)) == bs.take n))
def refDec (bs : List Int) : Int × Int := if bs = [] then (0, 0) else match [1, 2, 3, 4].find? (refOk bs) with
  | some n => (valueOf (bs.take n), (n : Int))
  | none => (65533, 1)

theorem refDec_hit {bs : List Int} {k : Nat} (h1 : 1 ≤ k) (h4 : k ≤ 4) (hno : ∀ j, 1 ≤ j → j < k → refOk bs j = false) (h : refOk bs k = true) : refDec bs = (valueOf (bs.take k), (k : Int)) := by
  have hne : bs ≠ [] := by
    rintro rfl
    unfold refOk at h
    simp at h
    omega
  have hf : [1, 2, 3, 4].find? (refOk bs) = some k := by
    rcases (show k = 1 ∨ k = 2 ∨ k = 3 ∨ k = 4 from by omega) with rfl | rfl | rfl | rfl
    · simp [List.find?, h]
    · simp [List.find?, h, hno 1 (by omega) (by omega)]
    · simp [List.find?, h, hno 1 (by omega) (by omega), hno 2 (by omega) (by omega)]
    · simp [List.find?, h, hno 1 (by omega) (by omega), hno 2 (by omega) (by omega), hno 3 (by omega) (by omega)]
  unfold refDec
  rw [if_neg hne, hf]
theorem refDec_miss {bs : List Int} (hne : bs ≠ []) (hno : ∀ j, 1 ≤ j → j ≤ 4 → refOk bs j = false) : refDec bs = (65533, 1) := by
  have hf : [1, 2, 3, 4].find? (refOk bs) = none := by
    simp [List.find?, hno 1 (by omega) (by omega), hno 2 (by omega) (by omega), hno 3 (by omega) (by omega), hno 4 (by omega) (by omega)]
  unfold refDec
  rw [if_neg hne, hf]

theorem ret_pair' {a b : Int} {p : Int × Int} (h : p = (a, b)) : Ending.returned (.tuple #[.int .i64 a, .int .i64 b]) = .returned (.tuple #[.int .i64 p.1, .int .i64 p.2]) := by rw [h]

def RefDecodePost (bs : List Int) (B : Nat) (w : World) (e : Ending) (w' : World) : Prop := e = .returned (.tuple #[.int .i64 (refDec bs).1, .int .i64 (refDec bs).2]) ∧ Below B w w'

set_option maxRecDepth 100000 in
set_option maxHeartbeats 1000000 in
theorem refDecode_any (A : Option Addr) (n c : Nat) (bs : List Int) (w : World) (hr : Reads w w.heap.size 1 A n c (bs.map (Value.int .u8))) (hbs : ∀ b ∈ bs, 0 ≤ b ∧ b ≤ 255) :
    Calls Tryd.prog 15 #[.slice A n c] w (RefDecodePost bs w.heap.size w) := by
  by_cases hn : n = 0
  · subst hn
    obtain rfl : bs = [] := by have := hr.len; simpa using this
    go_enter Tryd.func15, Tryd.ntmps15
    go_wp2
    go_ret2
    exact ⟨rfl, Below.refl _ _⟩
  · obtain ⟨b, off, rfl, hb, hcell⟩ := hr.at_ (by omega)
    have hlen := hr.len
    simp only [List.length_map, Nat.mul_one] at hlen
    have hcap := hr.cap
    have hnc := hr.le
    clear hcell
    have hn0 : ((n : Int) == 0) = false := by rw [beq_eq_false_iff_ne]; omega
    have hn1 : 0 < n := by omega
    clear hn
    have HBS := Lib.hid hbs
    have HLEN := Lib.hid hlen
    clear hbs hlen
    obtain ⟨B, hB⟩ : ∃ B, B = w.heap.size := ⟨_, rfl⟩
    have hr1 : Reads w B 1 (some ⟨b, off, none⟩) n c (bs.map (Value.int .u8)) := by rw [hB]; exact hr
    rw [← hB]
    have hBs : B ≤ w.heap.size := by omega
    clear hB hr
    go_enter Tryd.func15, Tryd.ntmps15
    go_wp2_with fail
    go_loopw [4] (fun i wr => ∃ k : Nat, 1 ≤ k ∧ k ≤ 5 ∧ i = .int .i64 k ∧ (∀ j, 1 ≤ j → j < k → refOk bs j = false) ∧ Below B w wr) (fun i _ => 5 - (intOf i).toNat)
    case atStart => exact ⟨1, by omega, by omega, rfl, fun j _ hj => absurd hj (by omega), Below.refl _ _⟩
    case round =>
      obtain ⟨k, hk1, hk5, rfl, hno, hbel⟩ := hrel
      have hnoH := Lib.hid hno
      clear hno
      have hsz : B ≤ wr.heap.size := by have := hbel.size; omega
      by_cases hk4 : k ≤ 4
      case neg =>
        go_wp2_with fail
        go_ret2
        exact ⟨ret_pair' (refDec_miss (by have := HLEN.out; intro h; subst h; simp at this; omega) fun j h1 h4 => hnoH.out j h1 (by omega)), hbel⟩
      by_cases hkn : k ≤ n
      case neg =>
        go_wp2_with fail
        go_ret2
        exact ⟨ret_pair' (refDec_miss (by have := HLEN.out; intro h; subst h; simp at this; omega) fun j h1 h4 => by
          rcases Nat.lt_or_ge j k with h | h
          · exact hnoH.out j h1 h
          · have := HLEN.out
            unfold refOk
            rw [decide_eq_false (by omega)]; rfl), hbel⟩
      have hrk : Reads wr B 1 (some ⟨b, off, none⟩) k c ((bs.take k).map (Value.int .u8)) := by
        have := (hr1.below hbel).take hkn
        rwa [Nat.mul_one, ← List.map_take] at this
      have hbk : ∀ b ∈ bs.take k, 0 ≤ b ∧ b ≤ 255 := fun b hb => HBS.out b (List.mem_of_mem_take hb)
      have HBK := Lib.hid hbk
      clear hbk
      obtain ⟨r, hrr⟩ : ∃ r, r = valueOf (bs.take k) := ⟨_, rfl⟩
      have hval : Calls Tryd.prog 35 #[.slice (some ⟨b, off, none⟩) k c] wr fun e w' => e = .returned (.int .i64 r) ∧ ∃ k, w' = wr.drewN k := by
        rw [hrr]; exact value_any _ _ _ B _ wr hrk HBK.out hk1 hk4
      have HV := Lib.hid hval
      have HR := Lib.hid hrr
      clear hval hrr
      have HE := Lib.hid (show refOk bs k = (dom r && (encB r == bs.take k)) from by
        unfold refOk
        rw [← HR.out]
        simp [show k ≤ bs.length from by have := HLEN.out; omega])
      cases hdom : dom r
      · have HD := Lib.hid hdom
        go_wp2_with (first | (go_at_call 35; refine (HV.out).mono ?_; rintro e w' ⟨rfl, nv, rfl⟩) | (go_at_call 36; refine (refDomain_any _ _).mono ?_; rintro e w' ⟨rfl, rfl⟩; rw [hdom]))
        have hbw := bdrewN hbel nv
        generalize wr.drewN nv = W0 at *
        clear hdom
        go_quiet (fail)
        go_wp2
        go_roundw
        case rel => exact ⟨k + 1, by omega, by omega, by go_num, fun j h1 hj => by
          rcases Nat.lt_or_ge j k with h | h
          · exact hnoH.out j h1 h
          · obtain rfl : j = k := by omega
            rw [HE.out, HD.out]; rfl, bdrewN hbw _⟩
        case measure => simp [intOf]; omega
      · have HD := Lib.hid hdom
        have hd0 : 0 ≤ r := by have := hdom; unfold dom at this; simp at this; omega
        have hd1 : r ≤ 1114111 := by have := hdom; unfold dom at this; simp at this; omega
        go_wp2_with (first | (go_at_call 35; refine (HV.out).mono ?_; rintro e w' ⟨rfl, nv, rfl⟩) | (go_at_call 36; refine (refDomain_any _ _).mono ?_; rintro e w' ⟨rfl, rfl⟩; rw [hdom]))
        have hbw := bdrewN hbel nv
        have hrw := hrk.drewN nv
        have hsw : B ≤ (wr.drewN nv).heap.size := hsz
        clear hdom hrk
        generalize wr.drewN nv = W0 at *
        obtain ⟨X, hX⟩ : ∃ X : Obj, X = .cells ((encB r).map (Value.int .u8)).toArray 5 := ⟨_, rfl⟩
        obtain ⟨m, hm⟩ : ∃ m, m = (encB r).length := ⟨_, rfl⟩
        obtain ⟨s1, hs1⟩ : ∃ s, s = strOfNums (bs.take k) := ⟨_, rfl⟩
        obtain ⟨s2, hs2⟩ : ∃ s, s = strOfNums (encB r) := ⟨_, rfl⟩
        have hby : Calls Tryd.prog 37 #[.int .i64 r] W0.drew fun e w' => e = .returned (.slice (some ⟨W0.heap.size, 0, none⟩) m m) ∧ (W0.alloc X).drew = w' := by
          rw [hX, hm]
          exact bytes_any r W0.drew hd0 hd1
        have hrA := hrw.alloc hsw X
        have hbA := hbw.alloc hsw X
        have v1 : (convert 25 9 (.slice (some ⟨b, off, none⟩) k c)).run Tryd.prog W0.drew = .ok (.string s1) W0.drew := by
          rw [hs1]; exact hrw.drew.str (P := Tryd.prog) Tryd.underlying25 Tryd.underlying5 Tryd.underlying9
        have v2 : (convert 25 9 (.slice (some ⟨b, off, none⟩) k c)).run Tryd.prog (W0.alloc X).drew = .ok (.string s1) (W0.alloc X).drew := by
          rw [hs1]; exact hrA.drew.str (P := Tryd.prog) Tryd.underlying25 Tryd.underlying5 Tryd.underlying9
        have v3 : (convert 25 9 (.slice (some ⟨W0.heap.size, 0, none⟩) m m)).run Tryd.prog (W0.alloc X).drew = .ok (.string s2) (W0.alloc X).drew := by
          have hrN : Reads (W0.alloc X) (W0.alloc X).heap.size 1 (some ⟨W0.heap.size, 0, none⟩) m m ((encB r).map (Value.int .u8)) := by
            rw [hX]
            have := encB_len r
            exact Reads.of_own (own_lit W0 W0.heap.size _ 1 _ _ _ (Nat.le_refl _) rfl (by rw [hm]; simp) (by omega))
          rw [hs2]; exact hrN.drew.str (P := Tryd.prog) Tryd.underlying25 Tryd.underlying5 Tryd.underlying9
        have HS1 := Lib.hid hs1
        have HS2 := Lib.hid hs2
        have HBY := Lib.hid hby
        clear hX hm hs1 hs2 hrA hrw hby
        go_region_with (go_at_call 37; refine (HBY.out).mono ?_; rintro e w' ⟨rfl, rfl⟩)
        all_goals go_wp2
        all_goals first
          | (have ht : (s2.toList == s1.toList) = true := by assumption
             go_ret2
             refine ⟨ret_pair' ?_, hbA.drew⟩
             rw [HS1.out, HS2.out, str_beq (encB_bd hd0 hd1) HBK.out] at ht
             rw [refDec_hit hk1 hk4 hnoH.out (by rw [HE.out, HD.out, ht]; rfl), ← HR.out])
          | (have ht : (s2.toList == s1.toList) = false := by assumption
             go_roundw
             case rel => exact ⟨k + 1, by omega, by omega, by go_num, fun j h1 hj => by
               rcases Nat.lt_or_ge j k with h | h
               · exact hnoH.out j h1 h
               · obtain rfl : j = k := by omega
                 rw [HS1.out, HS2.out, str_beq (encB_bd hd0 hd1) HBK.out] at ht
                 rw [HE.out, HD.out, ht]; rfl, hbA.drew⟩
             case measure => simp [intOf]; omega)
end Go.Proofs.YtgljhhlnnedmaaaDoor
