/- prog's row: next, put, end, full. -/
import Derived.Deep.AppendLies
import Derived.Deep.RegionHeldLaw
import Derived.Test.YtfgelkfnbohmmaaP07
import Derived.Test.YtfgelkfnbohmmaaP13
import Derived.Test.YtfgelkfnbohmmaaP26
namespace Go.Proofs.Ytfgelkfnbohmmaa
open Go.RowKit Go.Proofs.Ytfgelkfnbohmmaa.Mach
variable {X : List Nat}
theorem dbg {P : Prop} (h : Hid P) : P := h.out
theorem info_inst : (Try.prog.info? 54).map (fun i => (i.zero, i.size, i.bytes)) = some (some (.agg #[.int .i64 0, .int .i64 0, .int .i64 0, .int .i64 0, .slice none 0 0]), 5, 56) := by kernel_rfl
set_option maxRecDepth 100000 in
set_option maxHeartbeats 2000000 in
theorem next_any (rb : Nat) (v : Value) (L : List InV) (w : World) (h : RowI X rb 62 v L w) :
    Calls Try.prog 38 #[.pointer (some ⟨rb, 0, none⟩)] w fun e w' => e = .returned (.int .i64 L.length) ∧ w' = w := by
  obtain ⟨A, c, rfl⟩ := own_shape h.own
  have e0 : w.cell? ⟨rb, 0, none⟩ = some (.slice A L.length c) := h.blk.cell 0
  clear h
  go_enter Try.func38, Try.ntmps38
  go_wp2_with fail
  go_ret
  exact ⟨rfl, rfl⟩
set_option maxRecDepth 100000 in
set_option maxHeartbeats 2000000 in
theorem full_any (rb : Nat) (v : Value) (L : List InV) (w : World) (h : RowI X rb 62 v L w) :
    Calls Try.prog 24 #[.pointer (some ⟨rb, 0, none⟩)] w fun e w' => e = .returned (.bool (decide (20000 < L.length))) ∧ w' = w := by
  obtain ⟨A, c, rfl⟩ := own_shape h.own
  have e0 : w.cell? ⟨rb, 0, none⟩ = some (.slice A L.length c) := h.blk.cell 0
  clear h
  go_enter Try.func24, Try.ntmps24
  go_wp2_with fail
  go_ret
  exact ⟨ret_bool (by simp; omega), rfl⟩
set_option maxRecDepth 100000 in
set_option maxHeartbeats 2000000 in
theorem put_walk (rb : Nat) (op arg : Int) (v : Value) (L : List InV) (w : World) (h : RowI X rb 62 v L w) (hl : L.length ≤ 1000000000) :
    Calls Try.prog 21 #[.pointer (some ⟨rb, 0, none⟩), .int .i64 op, .int .i64 arg] w fun e w' => e = .returned (.int .i64 L.length) ∧ ∃ v', RowI X rb 62 v' (L ++ [⟨⟨op, (L.length : Int) + 1, 0, arg, []⟩, none, 0, 0⟩]) w' ∧ RKI rb v w v' w' := by
  obtain ⟨i0, hi, hz0, hz1, hz2⟩ := info_parts info_inst
  have hn := next_any rb v L w h
  obtain ⟨A, c, rfl⟩ := own_shape h.own
  have H := Lib.hid h
  have HN := Lib.hid hn
  have hba : Below w.heap.size w (w.alloc (.cells #[.int .i64 op, .int .i64 ((L.length : Int) + 1), .int .i64 0, .int .i64 arg, .slice none 0 0] 54)) := (Below.refl _ _).alloc (Nat.le_refl _) _
  have HB := Lib.hid (h.blk.alloc (.cells #[.int .i64 op, .int .i64 ((L.length : Int) + 1), .int .i64 0, .int .i64 arg, .slice none 0 0] 54))
  have HO := Lib.hid (own_below h.own hba)
  have HBA := Lib.hid hba
  have hbs : rb ≤ (w.alloc (.cells #[.int .i64 op, .int .i64 ((L.length : Int) + 1), .int .i64 0, .int .i64 arg, .slice none 0 0] 54)).heap.size := Nat.le_trans (Nat.le_of_lt h.blk.lt) hba.size
  have e0 : w.cell? ⟨rb, 0, none⟩ = some (.slice A L.length c) := h.blk.cell 0
  have e1 : (w.alloc (.cells #[.int .i64 op, .int .i64 ((L.length : Int) + 1), .int .i64 0, .int .i64 arg, .slice none 0 0] 54)).cell? ⟨rb, 0, none⟩ = some (.slice A L.length c) := HB.out.cell 0
  clear h hn hba
  go_enter Try.func21, Try.ntmps21
  go_wp2_with fail
  refine HN.out.mono ?_
  rintro e w1 ⟨rfl, hw⟩
  subst w1
  simp only []
  go_wp2_with (first
    | (at_builtin; refine wpList_append_lies _ rfl (.tmp 14) (.tmp 20) 28 rfl rb 54 i0 (.agg #[.int .i64 0, .int .i64 0, .int .i64 0, .int .i64 0, .slice none 0 0]) 5 56 Try.underlying28 hi hz0 hz1 hz2 rfl (by decide) (.slice A L.length c) L.length (insRow L) rfl HO.out ⟨w.heap.size, 0, none⟩ 1 1 [.int .i64 op, .int .i64 ((L.length : Int) + 1), .int .i64 0, .int .i64 arg, .slice none 0 0] rfl rfl (new_atT w _ [.int .i64 op, .int .i64 ((L.length : Int) + 1), .int .i64 0, .int .i64 arg, .slice none 0 0]) (insV_one ⟨op, (L.length : Int) + 1, 0, arg, []⟩ none 0 0) (by decide) (by unfold maxLen; omega) (by omega) hbs _ rfl ?_; intro g cap2 w2 hou2 hg2 hat2 hlt2; have hgo := at_old HBA.out.size hat2; have hgr : g ≠ rb := (fun e => (by rcases hgo with h | h; exact H.out.sep (by rw [h, e]); have := H.out.blk.lt; omega)); have hb2 := HB.out.grown hg2 H.out.sep.symm; have q1 : w2.cell? ⟨rb, 0, none⟩ = some (.slice A L.length c) := hb2.cell 0; have q2 := hb2.frozen 0; have q3 := hb2.lt; have HOU := Lib.hid hou2; have HGO := Lib.hid hgo; have HGR := Lib.hid hgr; have HB2 := Lib.hid hb2; have HG2 := Lib.hid hg2; clear hgo hgr hb2 hg2 hou2 hat2))
  go_ret
  refine ⟨rfl, RowI.fin (c := c) H.out RdA.none_ (((Kept.of_below (L := []) HBA.out).trans (Kept.of_grown' HG2.out)).more (by intro k hk; simp at hk ⊢; exact .inl hk)) ((Kept.setCell ⟨rb, 0, none⟩ (.slice (some ⟨g, 0, none⟩) (L.length + 1) cap2)).more (by intro k hk; simp at hk ⊢; exact .inl (.inl hk))) HGO.out HGR.out (HB2.out.set_ 0 _) ?_⟩
  rw [insRow_app, insRow_one]
  exact own_kept HOU.out (Kept.setCell (w := w2) ⟨rb, 0, none⟩ _) (fun x hx hm => by simp [Value.ownBlock] at hx hm; exact HGR.out (by rw [hx, hm]))
set_option maxRecDepth 100000 in
set_option maxHeartbeats 2000000 in
theorem end_walk (rb : Nat) (I : Ins) (hI : I.rng = []) (v : Value) (L : List InV) (w : World) (h : RowI X rb 62 v L w) (hl : L.length ≤ 1000000000) :
    Calls Try.prog 23 #[.pointer (some ⟨rb, 0, none⟩), .agg #[.int .i64 I.op, .int .i64 I.x, .int .i64 I.y, .int .i64 I.arg, .slice none 0 0]] w fun e w' => e = .returned (.tuple #[]) ∧ ∃ v', RowI X rb 62 v' (L ++ [⟨I, none, 0, 0⟩]) w' ∧ RKI rb v w v' w' := by
  obtain ⟨i0, hi, hz0, hz1, hz2⟩ := info_parts info_inst
  obtain ⟨A, c, rfl⟩ := own_shape h.own
  have hba : Below w.heap.size w (w.alloc (.cells #[.int .i64 I.op, .int .i64 I.x, .int .i64 I.y, .int .i64 I.arg, .slice none 0 0] 54)) := (Below.refl _ _).alloc (Nat.le_refl _) _
  have hb1 := h.blk.below hba h.blk.lt
  have ho1 := own_below h.own hba
  have ht1 := Blk.new w 54 [.int .i64 I.op, .int .i64 I.x, .int .i64 I.y, .int .i64 I.arg, .slice none 0 0]
  have hbs0 : rb ≤ (w.alloc (.cells #[.int .i64 I.op, .int .i64 I.x, .int .i64 I.y, .int .i64 I.arg, .slice none 0 0] 54)).heap.size := Nat.le_trans (Nat.le_of_lt h.blk.lt) hba.size
  have H := Lib.hid h
  have HI := Lib.hid hI
  clear h hI
  go_enter Try.func23, Try.ntmps23
  go_wp2_with (at_builtin; refine dbg ?_)
  generalize (w.alloc (.cells #[.int .i64 I.op, .int .i64 I.x, .int .i64 I.y, .int .i64 I.arg, .slice none 0 0] 54)) = w1 at *
  have hb12 : Below w1.heap.size w1 (w1.alloc (.cells #[.int .i64 I.op, .int .i64 I.x, .int .i64 I.y, .int .i64 I.arg, .slice none 0 0] 54)) := (Below.refl _ _).alloc (Nat.le_refl _) _
  have HB := Lib.hid (hb1.alloc (.cells #[.int .i64 I.op, .int .i64 I.x, .int .i64 I.y, .int .i64 I.arg, .slice none 0 0] 54))
  have ht2 := ht1.alloc (.cells #[.int .i64 I.op, .int .i64 I.x, .int .i64 I.y, .int .i64 I.arg, .slice none 0 0] 54)
  have HO := Lib.hid (own_below ho1 hb12)
  have hbs : rb ≤ (w1.alloc (.cells #[.int .i64 I.op, .int .i64 I.x, .int .i64 I.y, .int .i64 I.arg, .slice none 0 0] 54)).drew.heap.size := Nat.le_trans hbs0 hb12.size
  have e0 : w1.drew.cell? ⟨rb, 0, none⟩ = some (.slice A L.length c) := hb1.cell 0
  have e1 : (w1.alloc (.cells #[.int .i64 I.op, .int .i64 I.x, .int .i64 I.y, .int .i64 I.arg, .slice none 0 0] 54)).drew.cell? ⟨rb, 0, none⟩ = some (.slice A L.length c) := HB.out.cell 0
  have g0 : w1.drew.cell? ⟨w.heap.size, 0, none⟩ = some (.int .i64 I.op) := ht1.cell 0
  have f0 : (w1.alloc (.cells #[.int .i64 I.op, .int .i64 I.x, .int .i64 I.y, .int .i64 I.arg, .slice none 0 0] 54)).drew.cell? ⟨w.heap.size, 0, none⟩ = some (.int .i64 I.op) := ht2.cell 0
  have g1 : w1.drew.cell? ⟨w.heap.size, 1, none⟩ = some (.int .i64 I.x) := ht1.cell 1
  have f1 : (w1.alloc (.cells #[.int .i64 I.op, .int .i64 I.x, .int .i64 I.y, .int .i64 I.arg, .slice none 0 0] 54)).drew.cell? ⟨w.heap.size, 1, none⟩ = some (.int .i64 I.x) := ht2.cell 1
  have g2 : w1.drew.cell? ⟨w.heap.size, 2, none⟩ = some (.int .i64 I.y) := ht1.cell 2
  have f2 : (w1.alloc (.cells #[.int .i64 I.op, .int .i64 I.x, .int .i64 I.y, .int .i64 I.arg, .slice none 0 0] 54)).drew.cell? ⟨w.heap.size, 2, none⟩ = some (.int .i64 I.y) := ht2.cell 2
  have g3 : w1.drew.cell? ⟨w.heap.size, 3, none⟩ = some (.int .i64 I.arg) := ht1.cell 3
  have f3 : (w1.alloc (.cells #[.int .i64 I.op, .int .i64 I.x, .int .i64 I.y, .int .i64 I.arg, .slice none 0 0] 54)).drew.cell? ⟨w.heap.size, 3, none⟩ = some (.int .i64 I.arg) := ht2.cell 3
  have g4 : w1.drew.cell? ⟨w.heap.size, 4, none⟩ = some (.slice none 0 0) := ht1.cell 4
  have f4 : (w1.alloc (.cells #[.int .i64 I.op, .int .i64 I.x, .int .i64 I.y, .int .i64 I.arg, .slice none 0 0] 54)).drew.cell? ⟨w.heap.size, 4, none⟩ = some (.slice none 0 0) := ht2.cell 4
  have HBA := Lib.hid hba
  have HB12 := Lib.hid hb12
  have HSZ := Lib.hid (show w.heap.size ≤ (w1.alloc (.cells #[.int .i64 I.op, .int .i64 I.x, .int .i64 I.y, .int .i64 I.arg, .slice none 0 0] 54)).drew.heap.size from Nat.le_trans hba.size hb12.size)
  clear hba hb1 ho1 ht1 ht2 hb12 hbs0
  go_region_law (first
    | (refine step_append_lies _ rfl (.tmp 8) (.tmp 10) 28 rfl rb 54 i0 (.agg #[.int .i64 0, .int .i64 0, .int .i64 0, .int .i64 0, .slice none 0 0]) 5 56 Try.underlying28 hi hz0 hz1 hz2 rfl (by decide) (.slice A L.length c) L.length (insRow L) rfl HO.out.drew ⟨w1.heap.size, 0, none⟩ 1 1 [.int .i64 I.op, .int .i64 I.x, .int .i64 I.y, .int .i64 I.arg, .slice none 0 0] rfl rfl (new_atT w1 _ [.int .i64 I.op, .int .i64 I.x, .int .i64 I.y, .int .i64 I.arg, .slice none 0 0]) (insV_one I none 0 0) (by decide) (by unfold maxLen; omega) (by omega) hbs _ rfl ?_; intro g cap2 w2 hou2 hg2 hat2 hlt2; have hgo := at_old HSZ.out hat2; have hgr : g ≠ rb := (fun e => (by rcases hgo with h | h; exact H.out.sep (by rw [h, e]); have := H.out.blk.lt; omega)); have hb2 := HB.out.drew.grown hg2 H.out.sep.symm; have q1 : w2.cell? ⟨rb, 0, none⟩ = some (.slice A L.length c) := hb2.cell 0; have q2 := hb2.frozen 0; have q3 := hb2.lt; have HOU := Lib.hid hou2; have HGO := Lib.hid hgo; have HGR := Lib.hid hgr; have HB2 := Lib.hid hb2; have HG2 := Lib.hid hg2; clear hgo hgr hb2 hg2 hou2 hat2))
  all_goals
    go_end0
    refine ⟨rfl, RowI.fin (c := c) H.out (by rw [HI.out]; exact RdA.none_) (((Kept.of_below (L := []) HBA.out).trans ((Kept.of_below (L := []) HB12.out).trans ((Kept.drew (L := [])).trans (Kept.of_grown' HG2.out)))).more (by intro k hk; simp at hk ⊢; exact .inl hk)) ((Kept.setCell ⟨rb, 0, none⟩ (.slice (some ⟨g, 0, none⟩) (L.length + 1) cap2)).more (by intro k hk; simp at hk ⊢; exact .inl (.inl hk))) HGO.out HGR.out (HB2.out.set_ 0 _) ?_⟩
    rw [insRow_app, insRow_one]
    exact own_kept HOU.out (Kept.setCell (w := w2) ⟨rb, 0, none⟩ _) (fun x hx hm => by simp [Value.ownBlock] at hx hm; exact HGR.out (by rw [hx, hm]))
end Go.Proofs.Ytfgelkfnbohmmaa
namespace Go.Proofs.Ytfgelkfnbohmmaa
open Go.RowKit Go.Proofs.Ytfgelkfnbohmmaa.Mach Go.Proofs.Ytfgelkfnbohmmaa.Tr
variable {X : List Nat}
/-- A row that has grown: by a tree's code, if it is not too long then. -/
structure LP (X : List Nat) (rb : Nat) (v : Value) (w : World) (L : List InV) (n : Nat) (code : List Ins) (v' : Value) (L' : List InV) (w' : World) : Prop where
  row : RowI X rb 62 v' L' w'
  rk : RKI rb v w v' w'
  ge : L.length ≤ L'.length
  le : L'.length ≤ L.length + n
  ok : L'.length ≤ 20000 → insL L' = insL L ++ code
theorem insL_app (a b : List InV) : insL (a ++ b) = insL a ++ insL b := by unfold insL; rw [List.map_append]
theorem insL_len (a : List InV) : (insL a).length = a.length := by unfold insL; rw [List.length_map]
theorem insL_set (a : List InV) (i : Nat) (u : InV) : insL (a.set i u) = (insL a).set i u.I := by unfold insL; rw [List.map_set]
theorem LP.trans {X' : List Nat} {rb : Nat} {v : Value} {w w1 w2 : World} {L L1 L2 : List InV} {n m : Nat} {c d : List Ins} {v1 v2 : Value} (h : LP X rb v w L n c v1 L1 w1) (g : LP X' rb v1 w1 L1 m d v2 L2 w2) : LP X' rb v w L (n + m) (c ++ d) v2 L2 w2 :=
  ⟨g.row, h.rk.trans g.rk, Nat.le_trans h.ge g.ge, by have := h.le; have := g.le; omega, fun hk => by rw [g.ok hk, h.ok (Nat.le_trans g.ge hk), List.append_assoc]⟩
theorem LP.refl {rb : Nat} {v : Value} {w w' : World} {L : List InV} (hr : RowI X rb 62 v L w) (hb : Below w.heap.size w w') : LP X rb v w L 0 [] v L w' :=
  ⟨hr.below hb, RKI.of_below hb, Nat.le_refl _, Nat.le_refl _, fun _ => (List.append_nil _).symm⟩
theorem LP.put {rb : Nat} {w w' : World} {L : List InV} {u : InV} {v v' : Value} (hr : RowI X rb 62 v' (L ++ [u]) w') (hk : RKI rb v w v' w') : LP X rb v w L 1 [u.I] v' (L ++ [u]) w' :=
  ⟨hr, hk, by simp, by simp, fun _ => by rw [insL_app]; rfl⟩
/-- An instruction of the row is turned: one that the code names. -/
theorem LP.below {rb : Nat} {v : Value} {w w' w2 : World} {L L' : List InV} {n : Nat} {c : List Ins} {v' : Value} (h : LP X rb v w L n c v' L' w') (hb : Below w'.heap.size w' w2) : LP X rb v w L n c v' L' w2 :=
  ⟨h.row.below hb, h.rk.trans (RKI.of_below hb), h.ge, h.le, h.ok⟩
theorem LP.set_ {rb : Nat} {v : Value} {w w' w2 : World} {L L' : List InV} {n : Nat} {c d : List Ins} {v' : Value} (h : LP X rb v w L n c v' L' w') {i : Nat} {u : InV} (hi : L.length ≤ i) (hr : RowI X rb 62 v' (L'.set i u) w2) (hk : RKI rb v' w' v' w2) (hd : L'.length ≤ 20000 → c.set (i - L.length) u.I = d) : LP X rb v w L n d v' (L'.set i u) w2 :=
  ⟨hr, h.rk.trans hk, by rw [List.length_set]; exact h.ge, by rw [List.length_set]; exact h.le, fun hl => by
    rw [List.length_set] at hl
    rw [insL_set, h.ok hl, List.set_append_right _ _ (by rw [insL_len]; exact hi), insL_len, hd hl]⟩
theorem LP.seq {X' : List Nat} {rb : Nat} {v : Value} {w w1 w2 : World} {L L1 L2 : List InV} {n m : Nat} {c : List Ins} {v1 v2 : Value} (h : LP X rb v w L n c v1 L1 w1) (hc : c.length = n) (f : Nat → List Ins) (g : LP X' rb v1 w1 L1 m (f L1.length) v2 L2 w2) : LP X' rb v w L (n + m) (c ++ f (L.length + n)) v2 L2 w2 := by
  have t := h.trans g
  refine ⟨t.row, t.rk, t.ge, t.le, fun hk => ?_⟩
  have h1 := congrArg List.length (h.ok (Nat.le_trans g.ge hk))
  rw [insL_len, List.length_append, insL_len, hc] at h1
  rw [t.ok hk, h1]
theorem LP.length {rb : Nat} {v : Value} {w w1 : World} {L L1 : List InV} {n : Nat} {c : List Ins} {v1 : Value} (h : LP X rb v w L n c v1 L1 w1) (hc : c.length = n) (hl : L1.length ≤ 20000) : L1.length = L.length + n := by
  have h1 := congrArg List.length (h.ok hl)
  rwa [insL_len, List.length_append, insL_len, hc] at h1
theorem set_modify {α : Type} (f : α → α) : ∀ (l : List α) (i : Nat) (a : α), l[i]? = some a → l.set i (f a) = l.modify i f
  | [], i, a, h => by simp at h
  | x :: l, 0, a, h => by simp at h; subst h; rfl
  | x :: l, i + 1, a, h => by rw [List.set_cons_succ, set_modify f l i a (by simpa using h)]; rfl
/-- An instruction of the row is turned. -/
theorem LP.mod {rb : Nat} {v : Value} {w w' w2 : World} {L L' : List InV} {n : Nat} {c d : List Ins} {v' : Value} (h : LP X rb v w L n c v' L' w') {i : Nat} {a u : InV} (f : Ins → Ins) (ha : L'[i]? = some a) (hu : u.I = f a.I) (hi : L.length ≤ i) (hr : RowI X rb 62 v' (L'.set i u) w2) (hk : RKI rb v' w' v' w2) (hd : L'.length ≤ 20000 → c.modify (i - L.length) f = d) : LP X rb v w L n d v' (L'.set i u) w2 := by
  refine h.set_ hi hr hk fun hl => ?_
  rw [← hd hl, hu]
  refine set_modify f c _ a.I ?_
  have h1 : (insL L')[i]? = some a.I := by unfold insL; rw [List.getElem?_map, ha]; rfl
  rw [h.ok hl, List.getElem?_append_right (by rw [insL_len]; exact hi), insL_len] at h1
  exact h1
theorem codesS_app : ∀ (a b : List Tr.Tr) (n : Nat), codesS (a ++ b) n = codesS a n ++ codesS b (n + lensS a)
  | [], b, n => by rw [List.nil_append, codesS, lensS]; rfl
  | t :: a, b, n => by rw [List.cons_append, codesS, codesS_app a b, codesS, lensS, List.append_assoc, Nat.add_assoc]
theorem lensS_app : ∀ a b : List Tr.Tr, lensS (a ++ b) = lensS a + lensS b
  | [], b => by rw [List.nil_append, lensS]; omega
  | t :: a, b => by rw [List.cons_append, lensS, lensS_app a b, lensS]; omega
theorem codes_len (l : List Tr.Tr) (b : Nat) : (codesS l b).length = lensS l := codes_length l (fun s _ b => code_length s b) b
theorem lens_take (l : List Tr.Tr) (i : Nat) : lensS (l.take i) ≤ lensS l := by
  have := congrArg lensS (List.take_append_drop i l)
  rw [lensS_app] at this
  omega
theorem wrI {x : Int} (h : -9223372036854775808 ≤ x ∧ x < 9223372036854775808) : IntKind.i64.wrap x = x := by rw [IntKind.wrap_i64]; omega
theorem RowI.drew {rb : Nat} {ty : TypeId} {v : Value} {L : List InV} {w : World} (h : RowI X rb ty v L w) : RowI X rb ty v L w.drew := h.below (bdrewN (Below.refl _ _) 1)
theorem LP.drew {rb : Nat} {v : Value} {w w' : World} {L L' : List InV} {n : Nat} {c : List Ins} {v' : Value} (h : LP X rb v w L n c v' L' w') : LP X rb v w L n c v' L' w'.drew := h.below (bdrewN (Below.refl _ _) 1)
theorem NB.drew {rb g : Nat} {ty : TypeId} {cs : List Value} {v : Value} {w : World} (h : NB rb g ty cs v w) : NB rb g ty cs v w.drew := ⟨h.blk, h.ne, h.sep⟩
theorem LP.cast {rb : Nat} {v : Value} {w w' : World} {L L' : List InV} {n n' : Nat} {c c' : List Ins} {v' : Value} (h : LP X rb v w L n c v' L' w') (hn : n = n') (hc : c = c') : LP X rb v w L n' c' v' L' w' := by subst hn hc; exact h
/-- maker.lay answers so of a tree. -/
def LY (t : Ta) : Prop := ∀ (X : List Nat) (S : Nat → Prop) (w : World) (rb : Nat) (v : Value) (L : List InV), RT w S t → (∀ b, S b → b < rb) → RowI X rb 62 v L w → L.length + lenS t.tr ≤ 1000000000 →
    Calls Try.prog 22 #[(.pointer (some ⟨rb, 0, none⟩)), t.val] w fun e w' => e = .returned (.tuple #[]) ∧ ∃ v' L', LP X rb v w L (lenS t.tr) (codeS t.tr L.length) v' L' w'
end Go.Proofs.Ytfgelkfnbohmmaa
