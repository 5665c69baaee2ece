/- heronlaw12.Kept: a program that was lent is as it was, and the marks. -/
import Derived.Test.YteiggbbljgkloaaLentW
namespace Go.Proofs.Yteiggbbljgkloaa
open Go.RowKit Go.Proofs.Yteiggbbljgkloaa.Mach

/-- A program lent reads as it did. -/
theorem LentPr.reads {w : World} {B g n : Nat} {L L' : List InV} (h : LentPr w B g L L') (hn : L.length = n) (hb : n ≤ 1048576) (hns : ∀ v ∈ L', v.n ≤ 1048576) : ReadsP w w.heap.size (some ⟨g, 0, none⟩) n (n + 1) L' := by
  have hl : L'.length = n := by rw [← hn]; have := congrArg List.length h.len; simpa [insL] using this
  have hr := h.row.reads (size := 5) (n := n) (c := n + 1) (by omega) (by omega) (by rw [List.length_append, insRow_length, hl]; simp)
  rw [List.take_left' (by rw [insRow_length, hl])] at hr
  refine ⟨hr, fun v hv => ?_⟩
  obtain ⟨h1, h2, r, h3, h4, h5⟩ := h.each v hv
  have hv2 := h5.reads (size := 2) (n := v.n) (c := v.n + 1) (by omega) (by have := hns v hv; omega) (by rw [List.length_append, flat_length, h1]; simp)
  rw [List.take_left' (by rw [flat_length, h1])] at hv2
  rw [h3, h2]
  exact ⟨hv2, fun h => by cases h⟩
theorem LentPr.below {w w' : World} {B g : Nat} {L L' : List InV} (h : LentPr w B g L L') (hb : Below w.heap.size w w') : LentPr w' B g L L' :=
  ⟨h.len, h.row.below hb h.row.lt, h.lo, fun v hv => (h.each v hv).below hb⟩

set_option maxRecDepth 100000 in
set_option maxHeartbeats 4000000 in
theorem keptP_any (A : Option Addr) (n c g B : Nat) (L L' : List InV) (start caps : Int) (w : World) (hr : ReadsP w w.heap.size A n c L) (hl : LentPr w B g L L') (hn : n ≤ 1048576) (hns : ∀ v ∈ L', v.n ≤ 1048576) :
    Calls Try.prog 11 #[.agg #[.slice (some ⟨g, 0, none⟩) n (n + 1), .int .i64 start, .int .i64 caps], .agg #[.slice A n c, .int .i64 start, .int .i64 caps]] w fun e w' => e = .returned (.bool true) ∧ Below w.heap.size w w' := by
  have hlen := hr.len
  have hnc := hr.1.le
  have hcap := hr.1.cap
  have hll : L'.length = n := by rw [← hlen]; have := congrArg List.length hl.len; simpa [insL] using this
  have hrl := hl.reads hlen hn hns
  obtain ⟨hB1, hB2⟩ := cells_two w 24 [.slice (some ⟨g, 0, none⟩) n (n + 1), .int .i64 start, .int .i64 caps] [.slice A n c, .int .i64 start, .int .i64 caps]
  have hb0 : Below w.heap.size w ((w.alloc (.cells #[.slice (some ⟨g, 0, none⟩) n (n + 1), .int .i64 start, .int .i64 caps] 24)).alloc (.cells #[.slice A n c, .int .i64 start, .int .i64 caps] 24)) := ((Below.refl _ _).alloc (Nat.le_refl _) _).alloc (by simp) _
  have HB1 := Lib.hid hB1
  have HB2 := Lib.hid hB2
  have HB0 := Lib.hid hb0
  have HR := Lib.hid (hr.below hb0)
  have HL := Lib.hid (hl.below hb0)
  have HRL := Lib.hid (hrl.below hb0)
  have HLEN := Lib.hid hlen
  have HLL := Lib.hid hll
  have HEQ := Lib.hid hl.len
  have hglt := hl.row.lt
  have HNS := Lib.hid hns
  clear hB1 hB2 hb0 hr hl hrl hlen hll hns
  have HSP := Lib.hid (fun u (hb : Below ((w.alloc (.cells #[.slice (some ⟨g, 0, none⟩) n (n + 1), .int .i64 start, .int .i64 caps] 24)).alloc (.cells #[.slice A n c, .int .i64 start, .int .i64 caps] 24)).heap.size ((w.alloc (.cells #[.slice (some ⟨g, 0, none⟩) n (n + 1), .int .i64 start, .int .i64 caps] 24)).alloc (.cells #[.slice A n c, .int .i64 start, .int .i64 caps] 24)) u) =>
    sameP_any L' L HEQ.out (some ⟨g, 0, none⟩) A n (n + 1) c start caps u (((HRL.out.more HB0.out.size).below hb).more hb.size) (((HR.out.more HB0.out.size).below hb).more hb.size))
  go_enter Try.func11, Try.ntmps11
  go_wp2_with (go_at_call 26; refine (HSP.out _ (Below.refl _ _)).mono ?_; rintro e w1 ⟨rfl, hb1⟩; have HW1 := Lib.hid hb1; have r1 : w1.cell? ⟨w.heap.size, 0, none⟩ = some (.slice (some ⟨g, 0, none⟩) n (n + 1)) := (HB1.out.below hb1 HB1.out.lt).cell 0; have r2 : w1.cell? ⟨w.heap.size + 1, 0, none⟩ = some (.slice A n c) := (HB2.out.below hb1 HB2.out.lt).cell 0; clear hb1; simp only [])
  have hL1 := HL.out.below HW1.out
  have hR1 := HR.out.below (HW1.out.mono HB0.out.size)
  have HBW := Lib.hid (HB0.out.trans (HW1.out.mono HB0.out.size))
  have HP2 := Lib.hid (HB2.out.below HW1.out HB2.out.lt)
  have HL1 := Lib.hid hL1
  have HR1 := Lib.hid hR1
  have hw1 : w.heap.size ≤ w1.heap.size := HBW.out.size
  clear HL HR HRL HSP HB1 HB2 hL1 hR1 r1 r2 HB0 HW1
  go_loopw [7] (fun q wr => ∃ i : Nat, i ≤ n ∧ q = .int .i64 i ∧ w1 = wr) (fun q _ => n - (intOf q).toNat)
  case atStart => exact ⟨0, Nat.zero_le _, rfl, rfl⟩
  case round =>
    obtain ⟨i, hi, rfl, rfl⟩ := hrel
    have r2 : w1.cell? ⟨w.heap.size + 1, 0, none⟩ = some (.slice A n c) := HP2.out.cell 0
    by_cases hlt : i < n
    · have hlt2 : (i : Int) < (n : Int) := by omega
      obtain ⟨v, hv⟩ : ∃ v, L[i]? = some v := ⟨_, List.getElem?_eq_getElem (by have := HLEN.out; omega)⟩
      obtain ⟨u, hu⟩ : ∃ v, L'[i]? = some v := ⟨_, List.getElem?_eq_getElem (by have := HLL.out; omega)⟩
      have huv : u.I = v.I := by
        have := congrArg (·[i]?) HEQ.out
        simp only [insL, List.getElem?_map, hv, hu, Option.map_some, Option.some.injEq] at this
        exact this
      obtain ⟨ab, ao, hA, hab⟩ := HR1.out.at_ (by omega)
      subst hA
      obtain ⟨i0, i1, i2, i3, i4⟩ := HR1.out.cells hv
      have hvr := (HR1.out.2 v (List.mem_of_getElem? hv)).1
      obtain ⟨h1, h2, r, h3, h4, h5⟩ := HL1.out.each u (List.mem_of_getElem? hu)
      have hun := HNS.out u (List.mem_of_getElem? hu)
      have hvl : v.n = u.n := by rw [← h1, huv]; have := hvr.len; rw [flat_length] at this; omega
      have j4 : w1.cell? ⟨g, i * 5 + 4, none⟩ = some (.slice (some ⟨r, 0, none⟩) u.n (u.n + 1)) := by
        rw [HL1.out.row.cell, List.getElem?_append_left (by rw [insRow_length]; have := HLL.out; omega), insRow_get L' i 4 u hu (by omega), h3, h2]; rfl
      have k0 : w1.cell? ⟨r, u.n * 2, none⟩ = some (.int .i64 (-77)) := by
        rw [h5.cell, List.getElem?_append_right (by rw [flat_length, h1]; omega), flat_length, h1, Nat.sub_self]; rfl
      obtain ⟨vI, vA, vn, vc⟩ := v
      obtain ⟨uI, uA, un, uc⟩ := u
      simp only [] at hvl i4 j4 k0 hun hvr
      subst hvl
      have hvle := hvr.le
      have hvcap := hvr.cap
      clear i0 i1 i2 i3 hv hu huv hvr h1 h2 h3 h4 h5
      go_wp2_with fail
      go_roundw
      case rel => exact ⟨i + 1, by omega, by go_num, (by first | rfl | trivial)⟩
      case measure => simp [intOf]; omega
    · obtain rfl : i = n := by omega
      have j0 : w1.cell? ⟨g, i * 5, none⟩ = some (.int .i64 (-77)) := by
        rw [HL1.out.row.cell, List.getElem?_append_right (by rw [insRow_length]; have := HLL.out; omega), insRow_length, HLL.out, Nat.sub_self]; rfl
      go_wp2_with fail
      go_ret
      exact ⟨rfl, HBW.out⟩
end Go.Proofs.Yteiggbbljgkloaa
