/- meaning.walker.once. -/
import Derived.Test.YtjeljlgjkjeloaaQOnce
import Derived.Handy
import Derived.Test.YtjeljlgjkjeloaaProg
import Derived.Test.YtjeljlgjkjeloaaQMem
import Derived.Lib.AppendZerosOnto
import Derived.WalkSpells
import Derived.Lib.SliceRun
namespace Go.Proofs.Ytjeljlgjkjeloaa
open Go.RowKit

theorem drew_heap (w : World) : w.drew.heap = w.heap := rfl
theorem set_block_kept (w : World) (b : Nat) (o : Obj) : Kept w (ChangeMaps.setBlock w b o) [b] :=
  ⟨rfl, rfl, rfl, by simp [ChangeMaps.setBlock], fun k hk hn => by
    have : b ≠ k := fun e => hn (by simp [e])
    simp [ChangeMaps.setBlock, Array.getElem?_setIfInBounds, this]⟩
theorem set_block_at (w : World) (b : Nat) (o : Obj) (hb : b < w.heap.size) : (ChangeMaps.setBlock w b o).heap[b]? = some o := by
  simp [ChangeMaps.setBlock, Array.getElem?_setIfInBounds, hb]
set_option maxHeartbeats 1000000 in
theorem once_any (G : Wk) (w : World) (s : Mean.St) (m : Mean.Mark) (hc : G.cst w) (hs : G.st w s) (hm : ∃ n ∈ G.U, n.ad = m.1) (hb : s.calls ≤ 4611686018427387904) :
    Calls Try.prog 42 #[.pointer (some ⟨G.wb, 0, none⟩), kv m] w fun e w' => e = .returned (.bool (decide (s.met m = 0))) ∧ G.fr w w' ∧ G.st w' (s.mark m) := by
  have hb1 : Below w.heap.size w (w.alloc (.cells #[.pointer (some ⟨m.1, 0, none⟩), .int .i64 (m.2.1 : Int), .bool m.2.2] 80)) := (Below.refl _ _).alloc (Nat.le_refl _) _
  have f1 : G.fr w (w.alloc (.cells #[.pointer (some ⟨m.1, 0, none⟩), .int .i64 (m.2.1 : Int), .bool m.2.2] 80)) := hc.below hb1
  have HBL := Lib.hid (Blk.new w 80 [.pointer (some ⟨m.1, 0, none⟩), .int .i64 (m.2.1 : Int), .bool m.2.2])
  have HC1 := Lib.hid (hc.fr f1)
  have HS1 := Lib.hid (hs.below hb1 hc.mb hc.ob)
  have HF1 := Lib.hid f1
  have HM := Lib.hid hm
  have hne : w.heap.size ≠ G.mb := by have := hc.mb; omega
  have hmet := hs.met m
  clear hc hs hb1 f1 hm
  unfold kv
  go_enter Try.func42, Try.ntmps42
  go_wp2_with fail
  generalize hg : w.heap.size = g at *
  generalize hw1 : w.alloc (.cells #[.pointer (some ⟨m.1, 0, none⟩), .int .i64 (m.2.1 : Int), .bool m.2.2] 80) = w1 at *
  have HMB := Lib.hid HC1.out.mb
  have HNB := Lib.hid (show ∀ b, (∃ n ∈ G.U, n.ad = b) → ∃ cs t, w1.heap[b]? = some (Obj.cells cs t (0, 0)) from fun b ⟨n, hn, e⟩ => by
    obtain ⟨ra, rc, sa, sc, hd⟩ := HC1.out.nodes n hn
    exact ⟨_, _, e ▸ hd.blk.raw⟩)
  have HNM := Lib.hid (show ∀ n ∈ G.U, n.ad ≠ G.mb from fun n hn e => by
    obtain ⟨ra, rc, sa, sc, hd⟩ := HC1.out.nodes n hn
    exact hd.still.2 (mem_mut.2 (.inl e)))
  obtain ⟨⟨es, cl, hmap, hok⟩, hout, hall, hends⟩ := HS1.out
  have HENDS := Lib.hid hends
  clear hends
  have HOUT := Lib.hid hout
  have HALL := Lib.hid hall
  clear hout hall
  have hl1 := hok.lookup (w := w1.drew) (m := m) (fun b hb => HNB.out b hb) HM.out hmap
  obtain ⟨v0, st, es1, cl1, he1, hok1, hst⟩ := hok.entry (w := w1.drew) (m := m) (fun b hb => HNB.out b hb) HM.out hmap
  have k2 := set_block_kept w1.drew G.mb (.map es1 cl1)
  have hm2 := set_block_at w1.drew G.mb (.map es1 cl1) HMB.out
  generalize hw2 : ChangeMaps.setBlock w1.drew G.mb (.map es1 cl1) = w2 at *
  have hN2 : ∀ b, (∃ n ∈ G.U, n.ad = b) → ∃ cs t, w2.heap[b]? = some (Obj.cells cs t (0, 0)) := fun b hb => by
    obtain ⟨cs, t, h⟩ := HNB.out b hb
    obtain ⟨n, hn, e⟩ := hb
    have := HNM.out n hn
    exact ⟨cs, t, (k2.block b ((Array.getElem?_eq_some_iff.1 h).1) (by rw [e] at this; simpa using this)).trans h⟩
  have hl2 := hok1.lookup (w := w2) (m := m) hN2 HM.out hm2
  obtain ⟨es3, cl3, he3, hok3⟩ := hst w2 hm2
  have k3 := set_block_kept w2 G.mb (.map es3 cl3)
  have hm3 := set_block_at w2 G.mb (.map es3 cl3) (Nat.lt_of_lt_of_le HMB.out k2.size)
  generalize hw3 : ChangeMaps.setBlock w2 G.mb (.map es3 cl3) = w3 at *
  have hl3 := hok3.lookup (w := w3.drew) (m := m) (fun b hb => by
    obtain ⟨cs, t, h⟩ := hN2 b hb
    obtain ⟨n, hn, e⟩ := hb
    have := HNM.out n hn
    exact ⟨cs, t, (k3.block b (Array.getElem?_eq_some_iff.1 h).1 (by rw [e] at this; simpa using this)).trans h⟩) HM.out hm3
  rw [if_pos rfl] at hl3
  have hgm : g ≠ G.mb := hne
  have k13 : Kept w1 w3 [G.mb] := (((Kept.drew (L := [])).trans k2).trans k3).more (by intro k hk; simp at hk; exact .inl (by simpa using hk))
  have HB3 := Lib.hid (HBL.out.kept k13 (by simpa using hgm))
  have hwm : G.wb ≠ G.mb := fun e => HC1.out.wb.1.2 (mem_mut.2 (.inl e))
  have HW3 := Lib.hid (HC1.out.wb.2.kept k13 (by simpa using hwm))
  have c0 : w1.drew.cell? ⟨g, 0, none⟩ = some (.pointer (some ⟨m.1, 0, none⟩)) := HBL.out.cell 0
  have c1 : w1.drew.cell? ⟨g, 1, none⟩ = some (.int .i64 (m.2.1 : Int)) := HBL.out.cell 1
  have c2 : w1.drew.cell? ⟨g, 2, none⟩ = some (.bool m.2.2) := HBL.out.cell 2
  have a1 : w1.drew.cell? ⟨G.wb, 1, none⟩ = some (.map (some G.mb)) := HC1.out.wb.2.cell 1
  have d0 : w3.drew.cell? ⟨g, 0, none⟩ = some (.pointer (some ⟨m.1, 0, none⟩)) := HB3.out.cell 0
  have d1 : w3.drew.cell? ⟨g, 1, none⟩ = some (.int .i64 (m.2.1 : Int)) := HB3.out.cell 1
  have d2 : w3.drew.cell? ⟨g, 2, none⟩ = some (.bool m.2.2) := HB3.out.cell 2
  have e1 : w3.drew.cell? ⟨G.wb, 1, none⟩ = some (.map (some G.mb)) := HW3.out.cell 1
  have hwr : IntKind.i64.wrap ((s.met m : Int) + 1) = (s.met m : Int) + 1 := by rw [IntKind.wrap_i64]; omega
  have hone : ((s.met m : Int) + 1 == 1) = decide (s.met m = 0) := by
    by_cases e : s.met m = 0
    · simp [e]
    · simp [e]; omega
  unfold kv at hl1 he1 hl2 hl3
  rw [goInt] at he1 he3
  have HMAP := Lib.hid hmap
  clear hst hok hok1 hmap hN2 hne hwm hm2 hgm
  have HOK3 := Lib.hid hok3
  have HM3 := Lib.hid hm3
  have HK := Lib.hid k13
  clear hok3 hm3 k2 k3 k13 hw2 hw3
  go_region
  all_goals (go_wp2_with fail)
  go_region
  go_wp2_with fail
  go_ret
  have hob : G.ob ≠ G.mb := fun e => by
    obtain ⟨v, ps, h, -⟩ := HOUT.out
    have h2 := h.raw
    rw [e, HMAP.out] at h2
    cases h2
  have hF : G.fr w1 w3.drew := by
    refine ⟨(HK.out.trans (Kept.drew (L := []))).more fun k hk => .inl (mem_mut.2 (.inl (by simpa using hk))), fun b hb => .inl ?_, HMB.out, HC1.out.ob⟩
    unfold outB at hb ⊢
    rwa [show w3.drew.cell? ⟨G.ob, 0, none⟩ = w1.cell? ⟨G.ob, 0, none⟩ from HK.out.cell (p := ⟨G.ob, 0, none⟩) HC1.out.ob (by simpa using hob)] at hb
  refine ⟨rfl, HF1.out.trans hF, ⟨⟨es3, cl3, HM3.out, HOK3.out⟩, ?_, fun m' => ?_, HENDS.out⟩⟩
  · obtain ⟨v, ps, h1, h2, h3, h4⟩ := HOUT.out
    refine ⟨v, ps, (h1.kept HK.out (by simpa using hob)).drew, (own_kept (w' := w3.drew) (L := [G.mb]) h2 ((HK.out.trans (Kept.drew (L := []))).more fun k hk => .inl (by simpa using hk)) fun b hb hbm => ?_), h3, fun p hp => ⟨(h4 p hp).1.fr hF, (h4 p hp).2⟩⟩
    simp only [List.mem_singleton] at hbm
    subst hbm
    rcases h2.2 with ⟨rfl, _⟩ | ⟨b, cap, cur, rfl, _, hh, _⟩
    · simp [Value.ownBlock] at hb
    · obtain e : b = G.mb := by simpa [Value.ownBlock] using hb
      rw [e, HMAP.out] at hh
      cases hh
  · have := HALL.out m'
    simp only [Mean.St.mark]
    split <;> omega
end Go.Proofs.Ytjeljlgjkjeloaa
/- slices.Clone of a row of ints. -/
namespace Go.Proofs.Ytjeljlgjkjeloaa
open Go.RowKit

theorem int_info : (Try.prog.info? 3).map (fun i => (i.zero, i.size, i.bytes)) = some (some (.int .i64 0), 1, 8) := by kernel_rfl
set_option maxRecDepth 100000 in
set_option maxHeartbeats 2000000 in
/-- Clone. -/
theorem clone_any (A : Option Addr) (n c : Nat) (l : List Int) (w : World) (hA : A = none → c = 0) (hr : Reads w w.heap.size 1 A n c (l.map (Value.int .i64))) (hn : n ≤ 1099511627776) :
    Calls Try.prog 32 #[.slice A n c] w fun e w' => ∃ v, e = .returned v ∧ w'.ownsRow w.heap.size 3 1 v l.length (l.map (Value.int .i64)) ∧ Below w.heap.size w w' := by
  obtain ⟨i0, hi, hz0, hz1, hz2⟩ := info_parts int_info
  have hlen : l.length = n := by have := hr.len; simpa using this
  have HLEN := Lib.hid hlen
  clear hlen
  have hnc := hr.le
  have hcap := hr.cap
  have heq := Lib.run_eql_slice_nil (P := Try.prog) w 29 3 A n c 0 0 Try.underlying29
  cases A with
  | none =>
    obtain rfl : c = 0 := hA rfl
    obtain rfl : n = 0 := by omega
    obtain rfl : l = [] := List.eq_nil_of_length_eq_zero HLEN.out
    have HR := Lib.hid hr
    clear hr hA
    go_enter Try.func32, Try.ntmps32
    go_wp2_with fail
    go_ret
    exact ⟨_, rfl, World.ownsRow_nil _ _ _ _, Below.refl _ _⟩
  | some ad =>
    have hr1 : Reads (w.alloc (.cells #[] 3)) w.heap.size 1 (some ad) n c (l.map (Value.int .i64)) := hr.alloc (Nat.le_refl _) _
    have ho : (w.alloc (.cells #[] 3)).ownsRow w.heap.size 3 1 (.slice (some ⟨w.heap.size, 0, none⟩) 0 0) 0 [] := own_lit w w.heap.size 3 1 0 #[] [] (Nat.le_refl _) rfl rfl (by decide)
    have hb : Below w.heap.size w (w.alloc (.cells #[] 3)) := (Below.refl _ _).alloc (Nat.le_refl _) _
    have HR := Lib.hid hr1
    have HO := Lib.hid ho
    clear hr hr1 ho hA
    go_enter Try.func32, Try.ntmps32
    go_wp2_with (at_builtin; refine wpList_append_reads rfl (.tmp 5) (.tmp 6) 29 rfl w.heap.size 3 i0 (.int .i64 0) 1 8 Try.underlying29 hi hz0 hz1 hz2 rfl (by decide) _ 0 [] rfl HO.out (some ad) w.heap.size n c (l.map (Value.int .i64)) rfl (fun h => by cases h) HR.out (ints_oneCell _ _) (by unfold maxLen; omega) (by omega) (by simp) ?_; intro v1 w1 ha1)
    go_ret
    have hbe := hb.grown ha1.grown (by simp) (fun k hk => (HO.out.lt k hk).1)
    have := ha1.own
    rw [Nat.zero_add, List.nil_append, ← HLEN.out] at this
    exact ⟨_, rfl, this, hbe⟩

end Go.Proofs.Ytjeljlgjkjeloaa
/- meaning.noted: notes with another one. -/
namespace Go.Proofs.Ytjeljlgjkjeloaa
open Go.RowKit

theorem set_map_int (l : List Int) (j : Nat) (x : Int) : (l.map (Value.int .i64)).set j (.int .i64 x) = (l.set j x).map (Value.int .i64) := by rw [List.map_set]
set_option maxHeartbeats 1000000 in
theorem noted_any (N : Option Addr) (n c j : Nat) (nt : List Int) (x : Int) (w : World) (hN : N = none → c = 0) (hr : Reads w w.heap.size 1 N n c (nt.map (Value.int .i64))) (hn : n ≤ 1099511627776) (hj : j < n) :
    Calls Try.prog 47 #[.slice N n c, .int .i64 (j : Int), .int .i64 x] w fun e w' => ∃ N' c', e = .returned (.slice N' n c') ∧ Below w.heap.size w w' ∧ RdA w' (fun b => w.heap.size ≤ b ∧ b < w'.heap.size) 1 N' n c' ((nt.set j x).map (Value.int .i64)) := by
  have HR := Lib.hid hr
  have HCL := Lib.hid (clone_any N n c nt w hN hr hn)
  clear hr
  have hji : (j : Int) < (n : Int) := by omega
  go_enter Try.func47, Try.ntmps47
  go_wp2_with fail
  refine HCL.out.mono ?_
  rintro e w1 ⟨v, rfl, ho, hb⟩
  have hl : nt.length = n := by have := HR.out.len; simpa using this
  have hnp : 0 < nt.length := by omega
  obtain ⟨A', c', rfl⟩ := own_shape ho
  obtain ⟨g, rfl, -, hg1, hg2⟩ := own_form ho hnp
  have hg := And.intro hg1 hg2
  have hro := Reads.of_own ho
  have hlt := hro.lt hnp
  have hcj : w1.cell? ⟨g, j, none⟩ = some (.int .i64 (nt.getD j 0)) := by
    rw [ho.cellAt j (by omega), List.getElem?_map, List.getElem?_eq_getElem (show j < nt.length by omega), List.getD_eq_getElem?_getD, List.getElem?_eq_getElem (show j < nt.length by omega)]; rfl
  have hfz : w1.frozen? ⟨g, j, none⟩ = false := ho.frozenAt j
  have HST := Lib.hid (ho.stored j (.int .i64 x))
  have HB := Lib.hid hb
  have HG := Lib.hid hg
  have hlt' := hlt
  rw [hl] at *
  clear ho hro hb
  go_wp2_with fail
  go_ret
  have hst := HST.out.1
  rw [set_map_int] at hst
  have hr2 := Reads.of_own hst
  refine ⟨some ⟨g, 0, none⟩, c', rfl, Below.kept HB.out (Kept.setCell ⟨g, j, none⟩ _) (fun k hk => by simp only [List.mem_singleton] at hk; subst hk; exact HG.out.1) HB.out.size, ?_⟩
  exact ⟨hr2.le, hr2.cap, hr2.len, (fun h => by cases h), fun _ => ⟨g, 0, rfl, ⟨HG.out.1, by simpa using HG.out.2⟩, fun k u hu => hr2.cellAt hu⟩⟩
end Go.Proofs.Ytjeljlgjkjeloaa
