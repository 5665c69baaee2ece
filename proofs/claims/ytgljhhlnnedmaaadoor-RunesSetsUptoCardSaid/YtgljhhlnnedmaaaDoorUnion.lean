/- runes.Union -/
import Derived.Test.YtgljhhlnnedmaaaDoorConcat
import Derived.Test.YtgljhhlnnedmaaaDoorRight
import Derived.Test.YtgljhhlnnedmaaaDoorClass
import Derived.Test.YtgljhhlnnedmaaaDoorClsPlain
namespace Go.Proofs.YtgljhhlnnedmaaaDoor
open Go.RowKit

theorem inR_right {l : List (Int × Int)} (h : rightB l = true) : ∀ x ∈ l, inR x := fun x hx => inR_of ((of_right h).1.1 x hx)
/-- Where class answers, told below an elder mark. -/
theorem ClassPost.lower {l : List (Int × Int)} {B B' : Nat} {w0 w w' : World} {e : Ending} (h : ClassPost l B w e w') (hb : Below B' w0 w) (hB : B' ≤ B) (_hs : B' ≤ w.heap.size) : ClassPost l B' w0 e w' := by
  obtain ⟨S, hp, hso, hbe, hif⟩ := h
  refine ⟨S, hp, hso, hb.trans (hbe.mono hB), ?_⟩
  split at hif
  · rw [if_pos ‹_›]; exact hif
  · rw [if_neg ‹_›]
    obtain ⟨v, rfl, ho⟩ := hif
    exact ⟨v, rfl, own_lower ho hB⟩
theorem ret2 {a b c d : Value} (h : a = c) (h' : b = d) : Ending.returned (.tuple #[a, b]) = .returned (.tuple #[c, d]) := by rw [h, h']
/-- What a call that answers a class or refuses leaves. -/
def ClsPost (ok : Bool) (l : List (Int × Int)) (B : Nat) (w : World) (e : Ending) (w' : World) : Prop :=
  if ok then ClassPost l B w e w' else e = .returned (.tuple #[.slice none 0 0, .int .i64 10]) ∧ Below B w w'

set_option maxRecDepth 100000 in
set_option maxHeartbeats 2000000 in
theorem union_any (A A' : Option Addr) (n c n' c' : Nat) (l l' : List (Int × Int)) (w : World) (hA : A = none → c = 0) (hA' : A' = none → c' = 0) (hr : Reads w w.heap.size 2 A n c (flat l)) (hr' : Reads w w.heap.size 2 A' n' c' (flat l')) :
    Calls Tryd.prog 26 #[.slice A n c, .slice A' n' c'] w (ClsPost (rightB l && rightB l') (l ++ l') w.heap.size w) := by
  obtain ⟨B, hB⟩ : ∃ B, B = w.heap.size := ⟨_, rfl⟩
  rw [← hB] at hr hr'
  have HR1 := Lib.hid (right_any A n c l w (by rw [← hB]; exact hr))
  rw [← hB]
  have hBs : B ≤ w.heap.size := by omega
  have hlen : l.length = n := by have := hr.len; rw [flat_length] at this; omega
  have hlen' : l'.length = n' := by have := hr'.len; rw [flat_length] at this; omega
  have HLEN := Lib.hid hlen
  have HLEN' := Lib.hid hlen'
  have HR := Lib.hid hr
  have HR' := Lib.hid hr'
  have HA := Lib.hid hA
  have HA' := Lib.hid hA'
  clear hB hlen hlen' hr hr' hA hA'
  go_enter Tryd.func26, Tryd.ntmps26
  go_wp2_with fail
  refine HR1.out.mono ?_
  rintro e w1 ⟨rfl, hb1⟩
  have hb1 : Below B w w1 := hb1.mono hBs
  have hs1 : B ≤ w1.heap.size := Nat.le_trans hBs hb1.size
  have HR2 := Lib.hid (right_any A' n' c' l' w1 ((HR'.out.below hb1).more hs1))
  clear HR1
  cases hd1 : rightB l with
  | false =>
    simp only []
    go_wp2_with fail
    go_ret2
    unfold ClsPost
    rw [hd1]
    exact ⟨rfl, hb1⟩
  | true =>
    simp only []
    go_wp2_with fail
    refine HR2.out.mono ?_
    rintro e w2 ⟨rfl, hb2⟩
    have hb2 : Below B w w2 := hb1.trans (hb2.mono hs1)
    have hs2 : B ≤ w2.heap.size := Nat.le_trans hBs hb2.size
    clear HR2
    cases hd2 : rightB l' with
    | false =>
      simp only []
      go_wp2_with fail
      go_ret2
      unfold ClsPost
      rw [hd1, hd2]
      exact ⟨rfl, hb2⟩
    | true =>
      have hn1 : n ≤ 5000 := by have := (of_right hd1).2; have := HLEN.out; omega
      have hn2 : n' ≤ 5000 := by have := (of_right hd2).2; have := HLEN'.out; omega
      have H1 := Lib.hid hd1
      have H2 := Lib.hid hd2
      clear hd1 hd2
      simp only []
      have hb3 : Below B w (w2.alloc (.cells #[.slice A n c, .slice A' n' c'] 42)) := hb2.alloc hs2 _
      have hs3 : B ≤ (w2.alloc (.cells #[.slice A n c, .slice A' n' c'] 42)).heap.size := Nat.le_trans hBs hb3.size
      have HC := Lib.hid (concat_any A A' n c n' c' w2.heap.size l l' _ HA.out HA'.out ((HR.out.below hb3).more hs3) ((HR'.out.below hb3).more hs3) ((Blk.new w2 42 [.slice A n c, .slice A' n' c']).cell 0) ((Blk.new w2 42 [.slice A n c, .slice A' n' c']).cell 1) (by omega))
      go_wp2_with fail
      refine HC.out.mono ?_
      rintro e w4 ⟨v, rfl, ho, hb4⟩
      clear HC
      have hb4 : Below B w w4 := hb3.trans (hb4.mono hs3)
      have hs4 : B ≤ w4.heap.size := Nat.le_trans hBs hb4.size
      obtain ⟨Av, cv, rfl⟩ := own_shape ho
      have hll : (l ++ l').length ≤ 10000 := by have := HLEN.out; have := HLEN'.out; rw [List.length_append]; omega
      have HK := Lib.hid (class_any Av _ cv (l ++ l') w4 (Reads.of_own ho) (fun x hx => by
        rcases List.mem_append.1 hx with h | h
        · exact inR_right H1.out x h
        · exact inR_right H2.out x h) (by omega))
      clear ho hb3 hs3
      obtain ⟨m, hm⟩ : ∃ m, m = (l ++ l').length := ⟨_, rfl⟩
      rw [← hm] at HK hll ⊢
      clear hm
      go_wp2_with fail
      refine HK.out.mono ?_
      intro e w5 h
      have hl := h.lower hb4 hs4 hs4
      clear h HK
      obtain ⟨S, hp, hso, hbe, hif⟩ := hl
      by_cases hbig : 5000 < (mergeR S).length
      · rw [if_pos hbig] at hif
        subst hif
        have HP := Lib.hid hp
        have HS := Lib.hid hso
        clear hp hso
        go_wp2_with fail
        go_ret2
        unfold ClsPost
        rw [H1.out, H2.out]
        exact ⟨S, HP.out, HS.out, hbe, by rw [if_pos hbig]; rfl⟩
      · rw [if_neg hbig] at hif
        obtain ⟨v, rfl, ho⟩ := hif
        have HP := Lib.hid hp
        have HS := Lib.hid hso
        have HO := Lib.hid ho
        clear hp hso ho
        go_wp2_with fail
        go_ret2
        unfold ClsPost
        rw [H1.out, H2.out]
        exact ⟨S, HP.out, HS.out, hbe, by rw [if_neg hbig]; exact ⟨_, rfl, HO.out⟩⟩
end Go.Proofs.YtgljhhlnnedmaaaDoor
