/- runes.Norm -/
import Derived.Test.YtgljhhlnnedmaaaDoorClass
namespace Go.Proofs.YtgljhhlnnedmaaaDoor
open Go.RowKit

def okR (x : Int × Int) : Bool := decide (0 ≤ x.1 ∧ x.1 ≤ x.2 ∧ x.2 ≤ 1114111)
/-- What Norm leaves. -/
def NormPost (l : List (Int × Int)) (B : Nat) (w : World) (e : Ending) (w' : World) : Prop :=
  if l.all okR then ClassPost l B w e w' else e = .returned (.tuple #[.slice none 0 0, .int .i64 10]) ∧ Below B w w'

set_option maxRecDepth 100000 in
set_option maxHeartbeats 2000000 in
theorem norm_any (A : Option Addr) (n c : Nat) (l : List (Int × Int)) (w : World) (hr : Reads w w.heap.size 2 A n c (flat l)) (hn : n ≤ 1048576) :
    Calls Tryd.prog 25 #[.slice A n c] w (NormPost l w.heap.size w) := by
  obtain ⟨B, hB⟩ : ∃ B, B = w.heap.size := ⟨_, rfl⟩
  rw [← hB] at hr
  rw [← hB]
  have hBs : B ≤ w.heap.size := by omega
  have HB := Lib.hid hB
  have hlen : l.length = n := by have := hr.len; rw [flat_length] at this; omega
  have HLEN := Lib.hid hlen
  have hnc := hr.le
  have hcap := hr.cap
  have HR := Lib.hid hr
  clear hB hlen hr
  go_enter Tryd.func25, Tryd.ntmps25
  go_wp2_with fail
  go_loopw [8] (fun p wr => ∃ i : Nat, i ≤ n ∧ p = .int .i64 i ∧ (∀ x ∈ l.take i, okR x = true) ∧ Below B w wr) (fun p _ => n - (intOf p).toNat)
  case atStart => exact ⟨0, Nat.zero_le _, rfl, by simp, Below.refl _ _⟩
  case round =>
    obtain ⟨i, hi1, rfl, hok, hbel⟩ := hrel
    have hszr : B ≤ wr.heap.size := by have := hbel.size; omega
    have HOK := Lib.hid hok
    clear hok
    by_cases hlt : i < n
    · obtain ⟨x, hx⟩ : ∃ x, l[i]? = some x := ⟨_, List.getElem?_eq_getElem (by have := HLEN.out; omega)⟩
      obtain ⟨b, off, rfl, hb, hcell⟩ := (HR.out.below hbel).at_ (by omega)
      have hc1 : wr.cell? ⟨b, off + i * 2, none⟩ = some (.int .i64 x.1) := hcell _ _ (flat_get l i x hx).1
      have hc2 : wr.cell? ⟨b, off + i * 2 + 1, none⟩ = some (.int .i64 x.2) := by rw [Nat.add_assoc]; exact hcell _ _ (flat_get l i x hx).2
      have HX := Lib.hid hx
      obtain ⟨x1, x2⟩ := x
      have hbad : okR (x1, x2) = false → l.all okR = false := fun h => by
        rw [List.all_eq_false]
        exact ⟨(x1, x2), List.mem_of_getElem? HX.out, by simp [h]⟩
      have HBAD := Lib.hid hbad
      clear hcell hx hbad
      by_cases g1 : x1 < 0
      · have HF := Lib.hid (HBAD.out (decide_eq_false (by simp only []; omega)))
        go_wp2_with fail
        go_ret2
        unfold NormPost
        rw [HF.out]
        exact ⟨rfl, hbel.alloc hszr _⟩
      by_cases g2 : x2 < x1
      · have HF := Lib.hid (HBAD.out (decide_eq_false (by simp only []; omega)))
        go_wp2_with fail
        go_ret2
        unfold NormPost
        rw [HF.out]
        exact ⟨rfl, hbel.alloc hszr _⟩
      by_cases g3 : 1114111 < x2
      · have HF := Lib.hid (HBAD.out (decide_eq_false (by simp only []; omega)))
        go_wp2_with fail
        go_ret2
        unfold NormPost
        rw [HF.out]
        exact ⟨rfl, hbel.alloc hszr _⟩
      have HT := Lib.hid (show okR (x1, x2) = true from decide_eq_true (by simp only []; omega))
      go_wp2_with fail
      go_roundw
      case rel => exact ⟨i + 1, by omega, by go_num, fun y hy => by
        rw [List.take_add_one, HX.out] at hy
        simp at hy
        rcases hy with hy | rfl
        · exact HOK.out y hy
        · exact HT.out, hbel.alloc hszr _⟩
      case measure => simp [intOf]; omega
    · obtain rfl : n = i := by omega
      have hok := HOK.out
      rw [List.take_of_length_le (by have := HLEN.out; omega)] at hok
      have hall : l.all okR = true := by rw [List.all_eq_true]; exact hok
      have hcl := class_any A n c l wr ((HR.out.below hbel).more hszr) (fun x hx => by have := hok x hx; unfold okR at this; unfold inR; exact of_decide_eq_true this) (by omega)
      have HC := Lib.hid hcl
      have HALL := Lib.hid hall
      clear hok hall hcl hlt
      go_wp2_with fail
      refine HC.out.mono ?_
      rintro e w' ⟨S, hp, hs, hb1, he⟩
      have hb2 : Below B w w' := hbel.trans (hb1.mono hszr)
      by_cases hbig : 5000 < (mergeR S).length
      · rw [if_pos hbig] at he
        subst he
        have HP := Lib.hid hp
        have HS := Lib.hid hs
        clear hp hs hb1
        go_wp2_with fail
        go_ret2
        unfold NormPost
        rw [HALL.out]
        exact ⟨S, HP.out, HS.out, hb2, by rw [if_pos hbig]; rfl⟩
      · rw [if_neg hbig] at he
        obtain ⟨v, rfl, ho⟩ := he
        have HP := Lib.hid hp
        have HS := Lib.hid hs
        have HO := Lib.hid ho
        clear hp hs hb1 ho
        go_wp2_with fail
        go_ret2
        unfold NormPost
        rw [HALL.out]
        refine ⟨S, HP.out, HS.out, hb2, ?_⟩
        rw [if_neg hbig]
        refine ⟨v, rfl, ?_⟩
        have := HO.out
        exact ⟨this.1, this.2.imp id (fun ⟨g, cap, cur, h1, h2, h3⟩ => ⟨g, cap, cur, h1, by omega, h3⟩)⟩
end Go.Proofs.YtgljhhlnnedmaaaDoor
