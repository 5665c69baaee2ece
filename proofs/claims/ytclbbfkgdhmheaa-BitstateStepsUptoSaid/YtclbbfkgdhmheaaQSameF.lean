/- heronref12.Same: two answers that are the same. -/
import Derived.Test.YtclbbfkgdhmheaaQMemB
import Derived.Test.YtclbbfkgdhmheaaQLook
import Derived.BigQuiet
import Derived.Deep.QuietTactic
namespace Go.Proofs.Ytclbbfkgdhmheaa
open Go.RowKit Go.Proofs.Ytclbbfkgdhmheaa.Mach

theorem cells_twoF (w : World) (t : TypeId) (cs ds : List Value) : Blk ((w.alloc (.cells cs.toArray t)).alloc (.cells ds.toArray t)) w.heap.size t cs ∧ Blk ((w.alloc (.cells cs.toArray t)).alloc (.cells ds.toArray t)) (w.heap.size + 1) t ds := by
  refine ⟨(Blk.new w t cs).alloc _, ?_⟩
  have := Blk.new (w.alloc (.cells cs.toArray t)) t ds
  rw [show (w.alloc (.cells cs.toArray t)).heap.size = w.heap.size + 1 from by simp] at this
  exact this

set_option maxRecDepth 100000 in
set_option maxHeartbeats 4000000 in
theorem sameF_any (b : Bool) (wh st : Int) (l : List Int) (A1 A2 : Option Addr) (n c1 c2 : Nat) (w : World) (h1 : Reads w w.heap.size 1 A1 n c1 (l.map (Value.int .i64))) (h2 : Reads w w.heap.size 1 A2 n c2 (l.map (Value.int .i64)))
    : Calls Try.prog 26 #[.agg #[.bool b, .slice A1 n c1, .int .i64 wh, .int .i64 st], .agg #[.bool b, .slice A2 n c2, .int .i64 wh, .int .i64 st]] w fun e w' => e = .returned (.bool true) ∧ Below w.heap.size w w' := by
  have hl : l.length = n := by have := h1.len; simpa using this
  have hnc1 := h1.le
  have hnc2 := h2.le
  have hcp1 := h1.cap
  have hcp2 := h2.cap
  obtain ⟨hB1, hB2⟩ := cells_twoF w 38 [.bool b, .slice A1 n c1, .int .i64 wh, .int .i64 st] [.bool b, .slice A2 n c2, .int .i64 wh, .int .i64 st]
  have hb0 : Below w.heap.size w ((w.alloc (.cells #[.bool b, .slice A1 n c1, .int .i64 wh, .int .i64 st] 38)).alloc (.cells #[.bool b, .slice A2 n c2, .int .i64 wh, .int .i64 st] 38)) := ((Below.refl _ _).alloc (Nat.le_refl _) _).alloc (by simp) _
  have HB1 := Lib.hid hB1
  have HB2 := Lib.hid hB2
  have HB0 := Lib.hid hb0
  have H1 := Lib.hid (h1.below hb0)
  have H2 := Lib.hid (h2.below hb0)
  clear hB1 hB2 hb0 h1 h2
  have hbb : (b != b) = false := by cases b <;> rfl
  go_enter Try.func26, Try.ntmps26
  go_wp2_with fail
  generalize (w.alloc (.cells #[.bool b, .slice A1 n c1, .int .i64 wh, .int .i64 st] 38)).alloc (.cells #[.bool b, .slice A2 n c2, .int .i64 wh, .int .i64 st] 38) = w1 at *
  go_loopw [5] (fun q wr => ∃ i : Nat, i ≤ n ∧ q = .int .i64 i ∧ Below w1.heap.size w1 wr) (fun q _ => n - (intOf q).toNat)
  case atStart => exact ⟨0, Nat.zero_le _, rfl, Below.refl _ _⟩
  case round =>
    obtain ⟨i, hi, rfl, hb⟩ := hrel
    have r1 : wr.cell? ⟨w.heap.size, 1, none⟩ = some (.slice A1 n c1) := (HB1.out.below hb HB1.out.lt).cell 1
    have r2 : wr.cell? ⟨w.heap.size + 1, 1, none⟩ = some (.slice A2 n c2) := (HB2.out.below hb HB2.out.lt).cell 1
    have HB := Lib.hid hb
    clear hb
    by_cases hlt : i < n
    · have hlt2 : (i : Int) < (n : Int) := by omega
      obtain ⟨a1, o1, hA1, hl1, hc1⟩ := H1.out.at_ (by omega)
      obtain ⟨a2, o2, hA2, hl2, hc2⟩ := H2.out.at_ (by omega)
      subst hA1 hA2
      have HSZ := HB0.out.size
      obtain ⟨z, hz⟩ : ∃ z, l[i]? = some z := ⟨_, List.getElem?_eq_getElem (by omega)⟩
      have e1 : wr.cell? ⟨a1, o1 + i, none⟩ = some (.int .i64 z) := (HB.out.cell (p := ⟨a1, o1 + i, none⟩) (by simp only []; omega)).trans (hc1 i _ (by rw [List.getElem?_map, hz]; rfl))
      have e2 : wr.cell? ⟨a2, o2 + i, none⟩ = some (.int .i64 z) := (HB.out.cell (p := ⟨a2, o2 + i, none⟩) (by simp only []; omega)).trans (hc2 i _ (by rw [List.getElem?_map, hz]; rfl))
      have hzz : ((z : Int) != z) = false := by simp
      clear hc1 hc2 hz
      go_wp2_with fail
      go_quiet (fail)
      go_wp2_with fail
      go_roundw
      case rel => exact ⟨i + 1, by omega, by go_num, bdrewN HB.out nq⟩
      case measure => simp [intOf]; omega
    · obtain rfl : i = n := by omega
      go_wp2_with fail
      go_ret
      exact ⟨rfl, HB0.out.trans (HB.out.mono HB0.out.size)⟩
end Go.Proofs.Ytclbbfkgdhmheaa
/- heronlaw12.sameFind. -/
namespace Go.Proofs.Ytclbbfkgdhmheaa
open Go.RowKit Go.Proofs.Ytclbbfkgdhmheaa.Mach

set_option maxRecDepth 100000 in
set_option maxHeartbeats 4000000 in
theorem sameFind_any (b : Bool) (wh st st2 : Int) (l : List Int) (A1 A2 : Option Addr) (n c1 c2 : Nat) (w : World) (h1 : Reads w w.heap.size 1 A1 n c1 (l.map (Value.int .i64))) (h2 : Reads w w.heap.size 1 A2 n c2 (l.map (Value.int .i64)))
    : Calls Try.prog 9 #[.agg #[.bool b, .slice A1 n c1, .int .i64 wh, .int .i64 st], .agg #[.bool b, .slice A2 n c2, .int .i64 wh, .int .i64 st2]] w fun e w' => e = .returned (.bool true) ∧ Below w.heap.size w w' := by
  have hb0 : Below w.heap.size w ((w.alloc (.cells #[.bool b, .slice A1 n c1, .int .i64 wh, .int .i64 st2] 38)).alloc (.cells #[.bool b, .slice A2 n c2, .int .i64 wh, .int .i64 st2] 38)) := ((Below.refl _ _).alloc (Nat.le_refl _) _).alloc (by simp) _
  have HB0 := Lib.hid hb0
  have HS := Lib.hid (sameF_any b wh st2 l A1 A2 n c1 c2 _ ((h1.below hb0).more hb0.size) ((h2.below hb0).more hb0.size))
  clear hb0 h1 h2
  go_enter Try.func9, Try.ntmps9
  go_wp2_with (go_at_call 26; refine HS.out.mono ?_; rintro e w2 ⟨rfl, hb2⟩; have HB2 := Lib.hid hb2; clear hb2; simp only [])
  go_ret
  exact ⟨rfl, HB0.out.trans (HB2.out.mono HB0.out.size)⟩
end Go.Proofs.Ytclbbfkgdhmheaa
