/- prog's row: next, put, end, full. -/
import Derived.Test.YtfgelkfnbohmmaaQRowI
import Derived.Deep.AppendLies
import Derived.Deep.RegionHeldLaw
namespace Go.Proofs.Ytfgelkfnbohmmaa
open Go.RowKit Go.Proofs.Ytfgelkfnbohmmaa.Mach
variable {X : List Nat}

theorem dbg {P : Prop} (h : Hid P) : P := h.out
theorem info_inst : (Try.prog.info? 54).map (fun i => (i.zero, i.size, i.bytes)) = some (some (.agg #[.int .i64 0, .int .i64 0, .int .i64 0, .int .i64 0, .slice none 0 0]), 5, 56) := by kernel_rfl
set_option maxRecDepth 100000 in
set_option maxHeartbeats 2000000 in
theorem next_any (rb : Nat) (v : Value) (L : List InV) (w : World) (h : RowI X rb 62 v L w) :
    Calls Try.prog 38 #[.pointer (some ⟨rb, 0, none⟩)] w fun e w' => e = .returned (.int .i64 L.length) ∧ w' = w := by
  obtain ⟨A, c, rfl⟩ := own_shape h.own
  have e0 : w.cell? ⟨rb, 0, none⟩ = some (.slice A L.length c) := h.blk.cell 0
  clear h
  go_enter Try.func38, Try.ntmps38
  go_wp2_with fail
  go_ret
  exact ⟨rfl, rfl⟩
set_option maxRecDepth 100000 in
set_option maxHeartbeats 2000000 in
theorem full_any (rb : Nat) (v : Value) (L : List InV) (w : World) (h : RowI X rb 62 v L w) :
    Calls Try.prog 24 #[.pointer (some ⟨rb, 0, none⟩)] w fun e w' => e = .returned (.bool (decide (20000 < L.length))) ∧ w' = w := by
  obtain ⟨A, c, rfl⟩ := own_shape h.own
  have e0 : w.cell? ⟨rb, 0, none⟩ = some (.slice A L.length c) := h.blk.cell 0
  clear h
  go_enter Try.func24, Try.ntmps24
  go_wp2_with fail
  go_ret
  exact ⟨ret_bool (by simp; omega), rfl⟩
set_option maxRecDepth 100000 in
set_option maxHeartbeats 2000000 in
theorem put_walk (rb : Nat) (op arg : Int) (v : Value) (L : List InV) (w : World) (h : RowI X rb 62 v L w) (hl : L.length ≤ 1000000000) :
    Calls Try.prog 21 #[.pointer (some ⟨rb, 0, none⟩), .int .i64 op, .int .i64 arg] w fun e w' => e = .returned (.int .i64 L.length) ∧ ∃ v', RowI X rb 62 v' (L ++ [⟨⟨op, (L.length : Int) + 1, 0, arg, []⟩, none, 0, 0⟩]) w' ∧ RKI rb v w v' w' := by
  obtain ⟨i0, hi, hz0, hz1, hz2⟩ := info_parts info_inst
  have hn := next_any rb v L w h
  obtain ⟨A, c, rfl⟩ := own_shape h.own
  have H := Lib.hid h
  have HN := Lib.hid hn
  have hba : Below w.heap.size w (w.alloc (.cells #[.int .i64 op, .int .i64 ((L.length : Int) + 1), .int .i64 0, .int .i64 arg, .slice none 0 0] 54)) := (Below.refl _ _).alloc (Nat.le_refl _) _
  have HB := Lib.hid (h.blk.alloc (.cells #[.int .i64 op, .int .i64 ((L.length : Int) + 1), .int .i64 0, .int .i64 arg, .slice none 0 0] 54))
  have HO := Lib.hid (own_below h.own hba)
  have HBA := Lib.hid hba
  have hbs : rb ≤ (w.alloc (.cells #[.int .i64 op, .int .i64 ((L.length : Int) + 1), .int .i64 0, .int .i64 arg, .slice none 0 0] 54)).heap.size := Nat.le_trans (Nat.le_of_lt h.blk.lt) hba.size
  have e0 : w.cell? ⟨rb, 0, none⟩ = some (.slice A L.length c) := h.blk.cell 0
  have e1 : (w.alloc (.cells #[.int .i64 op, .int .i64 ((L.length : Int) + 1), .int .i64 0, .int .i64 arg, .slice none 0 0] 54)).cell? ⟨rb, 0, none⟩ = some (.slice A L.length c) := HB.out.cell 0
  clear h hn hba
  go_enter Try.func21, Try.ntmps21
  go_wp2_with fail
  refine HN.out.mono ?_
  rintro e w1 ⟨rfl, hw⟩
  subst w1
  simp only []
  go_wp2_with (first
    | (at_builtin; refine wpList_append_lies _ rfl (.tmp 14) (.tmp 20) 28 rfl rb 54 i0 (.agg #[.int .i64 0, .int .i64 0, .int .i64 0, .int .i64 0, .slice none 0 0]) 5 56 Try.underlying28 hi hz0 hz1 hz2 rfl (by decide) (.slice A L.length c) L.length (insRow L) rfl HO.out ⟨w.heap.size, 0, none⟩ 1 1 [.int .i64 op, .int .i64 ((L.length : Int) + 1), .int .i64 0, .int .i64 arg, .slice none 0 0] rfl rfl (new_atT w _ [.int .i64 op, .int .i64 ((L.length : Int) + 1), .int .i64 0, .int .i64 arg, .slice none 0 0]) (insV_one ⟨op, (L.length : Int) + 1, 0, arg, []⟩ none 0 0) (by decide) (by unfold maxLen; omega) (by omega) hbs _ rfl ?_; intro g cap2 w2 hou2 hg2 hat2 hlt2; have hgo := at_old HBA.out.size hat2; have hgr : g ≠ rb := (fun e => (by rcases hgo with h | h; exact H.out.sep (by rw [h, e]); have := H.out.blk.lt; omega)); have hb2 := HB.out.grown hg2 H.out.sep.symm; have q1 : w2.cell? ⟨rb, 0, none⟩ = some (.slice A L.length c) := hb2.cell 0; have q2 := hb2.frozen 0; have q3 := hb2.lt; have HOU := Lib.hid hou2; have HGO := Lib.hid hgo; have HGR := Lib.hid hgr; have HB2 := Lib.hid hb2; have HG2 := Lib.hid hg2; clear hgo hgr hb2 hg2 hou2 hat2))
  go_ret
  refine ⟨rfl, RowI.fin (c := c) H.out RdA.none_ (((Kept.of_below (L := []) HBA.out).trans (Kept.of_grown' HG2.out)).more (by intro k hk; simp at hk ⊢; exact .inl hk)) ((Kept.setCell ⟨rb, 0, none⟩ (.slice (some ⟨g, 0, none⟩) (L.length + 1) cap2)).more (by intro k hk; simp at hk ⊢; exact .inl (.inl hk))) HGO.out HGR.out (HB2.out.set_ 0 _) ?_⟩
  rw [insRow_app, insRow_one]
  exact own_kept HOU.out (Kept.setCell (w := w2) ⟨rb, 0, none⟩ _) (fun x hx hm => by simp [Value.ownBlock] at hx hm; exact HGR.out (by rw [hx, hm]))
set_option maxRecDepth 100000 in
set_option maxHeartbeats 2000000 in
theorem end_walk (rb : Nat) (I : Ins) (hI : I.rng = []) (v : Value) (L : List InV) (w : World) (h : RowI X rb 62 v L w) (hl : L.length ≤ 1000000000) :
    Calls Try.prog 23 #[.pointer (some ⟨rb, 0, none⟩), .agg #[.int .i64 I.op, .int .i64 I.x, .int .i64 I.y, .int .i64 I.arg, .slice none 0 0]] w fun e w' => e = .returned (.tuple #[]) ∧ ∃ v', RowI X rb 62 v' (L ++ [⟨I, none, 0, 0⟩]) w' ∧ RKI rb v w v' w' := by
  obtain ⟨i0, hi, hz0, hz1, hz2⟩ := info_parts info_inst
  obtain ⟨A, c, rfl⟩ := own_shape h.own
  have hba : Below w.heap.size w (w.alloc (.cells #[.int .i64 I.op, .int .i64 I.x, .int .i64 I.y, .int .i64 I.arg, .slice none 0 0] 54)) := (Below.refl _ _).alloc (Nat.le_refl _) _
  have hb1 := h.blk.below hba h.blk.lt
  have ho1 := own_below h.own hba
  have ht1 := Blk.new w 54 [.int .i64 I.op, .int .i64 I.x, .int .i64 I.y, .int .i64 I.arg, .slice none 0 0]
  have hbs0 : rb ≤ (w.alloc (.cells #[.int .i64 I.op, .int .i64 I.x, .int .i64 I.y, .int .i64 I.arg, .slice none 0 0] 54)).heap.size := Nat.le_trans (Nat.le_of_lt h.blk.lt) hba.size
  have H := Lib.hid h
  have HI := Lib.hid hI
  clear h hI
  go_enter Try.func23, Try.ntmps23
  go_wp2_with (at_builtin; refine dbg ?_)
  generalize (w.alloc (.cells #[.int .i64 I.op, .int .i64 I.x, .int .i64 I.y, .int .i64 I.arg, .slice none 0 0] 54)) = w1 at *
  have hb12 : Below w1.heap.size w1 (w1.alloc (.cells #[.int .i64 I.op, .int .i64 I.x, .int .i64 I.y, .int .i64 I.arg, .slice none 0 0] 54)) := (Below.refl _ _).alloc (Nat.le_refl _) _
  have HB := Lib.hid (hb1.alloc (.cells #[.int .i64 I.op, .int .i64 I.x, .int .i64 I.y, .int .i64 I.arg, .slice none 0 0] 54))
  have ht2 := ht1.alloc (.cells #[.int .i64 I.op, .int .i64 I.x, .int .i64 I.y, .int .i64 I.arg, .slice none 0 0] 54)
  have HO := Lib.hid (own_below ho1 hb12)
  have hbs : rb ≤ (w1.alloc (.cells #[.int .i64 I.op, .int .i64 I.x, .int .i64 I.y, .int .i64 I.arg, .slice none 0 0] 54)).drew.heap.size := Nat.le_trans hbs0 hb12.size
  have e0 : w1.drew.cell? ⟨rb, 0, none⟩ = some (.slice A L.length c) := hb1.cell 0
  have e1 : (w1.alloc (.cells #[.int .i64 I.op, .int .i64 I.x, .int .i64 I.y, .int .i64 I.arg, .slice none 0 0] 54)).drew.cell? ⟨rb, 0, none⟩ = some (.slice A L.length c) := HB.out.cell 0
  have g0 : w1.drew.cell? ⟨w.heap.size, 0, none⟩ = some (.int .i64 I.op) := ht1.cell 0
  have f0 : (w1.alloc (.cells #[.int .i64 I.op, .int .i64 I.x, .int .i64 I.y, .int .i64 I.arg, .slice none 0 0] 54)).drew.cell? ⟨w.heap.size, 0, none⟩ = some (.int .i64 I.op) := ht2.cell 0
  have g1 : w1.drew.cell? ⟨w.heap.size, 1, none⟩ = some (.int .i64 I.x) := ht1.cell 1
  have f1 : (w1.alloc (.cells #[.int .i64 I.op, .int .i64 I.x, .int .i64 I.y, .int .i64 I.arg, .slice none 0 0] 54)).drew.cell? ⟨w.heap.size, 1, none⟩ = some (.int .i64 I.x) := ht2.cell 1
  have g2 : w1.drew.cell? ⟨w.heap.size, 2, none⟩ = some (.int .i64 I.y) := ht1.cell 2
  have f2 : (w1.alloc (.cells #[.int .i64 I.op, .int .i64 I.x, .int .i64 I.y, .int .i64 I.arg, .slice none 0 0] 54)).drew.cell? ⟨w.heap.size, 2, none⟩ = some (.int .i64 I.y) := ht2.cell 2
  have g3 : w1.drew.cell? ⟨w.heap.size, 3, none⟩ = some (.int .i64 I.arg) := ht1.cell 3
  have f3 : (w1.alloc (.cells #[.int .i64 I.op, .int .i64 I.x, .int .i64 I.y, .int .i64 I.arg, .slice none 0 0] 54)).drew.cell? ⟨w.heap.size, 3, none⟩ = some (.int .i64 I.arg) := ht2.cell 3
  have g4 : w1.drew.cell? ⟨w.heap.size, 4, none⟩ = some (.slice none 0 0) := ht1.cell 4
  have f4 : (w1.alloc (.cells #[.int .i64 I.op, .int .i64 I.x, .int .i64 I.y, .int .i64 I.arg, .slice none 0 0] 54)).drew.cell? ⟨w.heap.size, 4, none⟩ = some (.slice none 0 0) := ht2.cell 4
  have HBA := Lib.hid hba
  have HB12 := Lib.hid hb12
  have HSZ := Lib.hid (show w.heap.size ≤ (w1.alloc (.cells #[.int .i64 I.op, .int .i64 I.x, .int .i64 I.y, .int .i64 I.arg, .slice none 0 0] 54)).drew.heap.size from Nat.le_trans hba.size hb12.size)
  clear hba hb1 ho1 ht1 ht2 hb12 hbs0
  go_region_law (first
    | (refine step_append_lies _ rfl (.tmp 8) (.tmp 10) 28 rfl rb 54 i0 (.agg #[.int .i64 0, .int .i64 0, .int .i64 0, .int .i64 0, .slice none 0 0]) 5 56 Try.underlying28 hi hz0 hz1 hz2 rfl (by decide) (.slice A L.length c) L.length (insRow L) rfl HO.out.drew ⟨w1.heap.size, 0, none⟩ 1 1 [.int .i64 I.op, .int .i64 I.x, .int .i64 I.y, .int .i64 I.arg, .slice none 0 0] rfl rfl (new_atT w1 _ [.int .i64 I.op, .int .i64 I.x, .int .i64 I.y, .int .i64 I.arg, .slice none 0 0]) (insV_one I none 0 0) (by decide) (by unfold maxLen; omega) (by omega) hbs _ rfl ?_; intro g cap2 w2 hou2 hg2 hat2 hlt2; have hgo := at_old HSZ.out hat2; have hgr : g ≠ rb := (fun e => (by rcases hgo with h | h; exact H.out.sep (by rw [h, e]); have := H.out.blk.lt; omega)); have hb2 := HB.out.drew.grown hg2 H.out.sep.symm; have q1 : w2.cell? ⟨rb, 0, none⟩ = some (.slice A L.length c) := hb2.cell 0; have q2 := hb2.frozen 0; have q3 := hb2.lt; have HOU := Lib.hid hou2; have HGO := Lib.hid hgo; have HGR := Lib.hid hgr; have HB2 := Lib.hid hb2; have HG2 := Lib.hid hg2; clear hgo hgr hb2 hg2 hou2 hat2))
  all_goals
    go_end0
    refine ⟨rfl, RowI.fin (c := c) H.out (by rw [HI.out]; exact RdA.none_) (((Kept.of_below (L := []) HBA.out).trans ((Kept.of_below (L := []) HB12.out).trans ((Kept.drew (L := [])).trans (Kept.of_grown' HG2.out)))).more (by intro k hk; simp at hk ⊢; exact .inl hk)) ((Kept.setCell ⟨rb, 0, none⟩ (.slice (some ⟨g, 0, none⟩) (L.length + 1) cap2)).more (by intro k hk; simp at hk ⊢; exact .inl (.inl hk))) HGO.out HGR.out (HB2.out.set_ 0 _) ?_⟩
    rw [insRow_app, insRow_one]
    exact own_kept HOU.out (Kept.setCell (w := w2) ⟨rb, 0, none⟩ _) (fun x hx hm => by simp [Value.ownBlock] at hx hm; exact HGR.out (by rw [hx, hm]))
end Go.Proofs.Ytfgelkfnbohmmaa
