/- simplify.simple's closure that joins alternatives. -/
import Derived.Test.YtfgelkfnbohmmaaP12
namespace Go.Proofs.Ytfgelkfnbohmmaa
open Go.RowKit Go.Proofs.Ytfgelkfnbohmmaa.Tr
def f2 : Value → List Value := fun v => [.int .i64 5, .slice none 0 0, .int .i64 0, v, .int .i64 0, .int .i64 0, .bool false, .int .i64 0, .string ⟨#[]⟩]
/-- What is put behind alternatives. -/
def putB : Ta → List Ta
  | .mk k r ra rc a l sa sc n m z i s => if k = 5 then l else [.mk k r ra rc a l sa sc n m z i s]
theorem putB_tr (t : Ta) : trs (putB t) = altPut t.tr := by
  cases t with
  | mk k r ra rc ast l sa sc mn mx z ix nm =>
    rw [putB, Ta.tr]
    by_cases h4 : k = 5
    · rw [if_pos h4]; exact (if_pos (show (Tr.mk k r ast (trs l) mn mx z ix nm).kind = 5 from h4)).symm
    · rw [if_neg h4]; exact (if_neg (show ¬ (Tr.mk k r ast (trs l) mn mx z ix nm).kind = 5 from h4)).symm
theorem alt_finA {B Bo rb g cap c : Nat} {X : List Nat} {A : Option Addr} {us : List Ta} {t : Ta} {w w2 : World} (hr : RowV B Bo X rb 25 f2 (.slice A us.length c) us w) (ht : RT w (Fr B (X ++ rb :: (Value.slice A us.length c).ownBlock.toList) w) t)
    (hk0 : Kept w w2 (Value.slice A us.length c).ownBlock.toList) (hgo : (Value.slice A us.length c).ownBlock = some g ∨ w.heap.size ≤ g) (hgr : g ≠ rb) {v0 : Value}
    (hb : Blk w2 rb 25 (f2 v0)) (ho : w2.ownsRow Bo 25 9 (.slice (some ⟨g, 0, none⟩) (us.length + 1) cap) (us.length + 1) (rowT (us ++ [zT]))) {k r a s nn m z x nm : Value} (hu : t.vals = [k, r, a, s, nn, m, z, x, nm]) :
    ∃ v', RowV B Bo X rb 25 f2 v' (us ++ [t]) ((((((((((w2.setCell ⟨g, us.length * 9, none⟩ k).setCell ⟨g, us.length * 9 + 1, none⟩ r).setCell ⟨g, us.length * 9 + 2, none⟩ a).setCell ⟨g, us.length * 9 + 3, none⟩ s).setCell ⟨g, us.length * 9 + 4, none⟩ nn).setCell ⟨g, us.length * 9 + 5, none⟩ m).setCell ⟨g, us.length * 9 + 6, none⟩ z).setCell ⟨g, us.length * 9 + 7, none⟩ x).setCell ⟨g, us.length * 9 + 8, none⟩ nm).setCell ⟨rb, 3, none⟩ (.slice (some ⟨g, 0, none⟩) (us.length + 1) cap)) ∧ Kept w ((((((((((w2.setCell ⟨g, us.length * 9, none⟩ k).setCell ⟨g, us.length * 9 + 1, none⟩ r).setCell ⟨g, us.length * 9 + 2, none⟩ a).setCell ⟨g, us.length * 9 + 3, none⟩ s).setCell ⟨g, us.length * 9 + 4, none⟩ nn).setCell ⟨g, us.length * 9 + 5, none⟩ m).setCell ⟨g, us.length * 9 + 6, none⟩ z).setCell ⟨g, us.length * 9 + 7, none⟩ x).setCell ⟨g, us.length * 9 + 8, none⟩ nm).setCell ⟨rb, 3, none⟩ (.slice (some ⟨g, 0, none⟩) (us.length + 1) cap)) (rb :: (Value.slice A us.length c).ownBlock.toList) ∧ (v'.ownBlock = (Value.slice A us.length c).ownBlock ∨ ∃ g, v'.ownBlock = some g ∧ w.heap.size ≤ g) := by
  have hil : us.length < (us ++ [zT]).length := by rw [List.length_append]; simp
  have hse : (us ++ [zT]).set us.length t = us ++ [t] := by rw [List.set_append_right _ _ (Nat.le_refl _), Nat.sub_self]; rfl
  refine put_fin (cap := cap) hr ht hk0 (((kept9 w2 g (us.length * 9) k r a s nn m z x nm).trans (Kept.setCell ⟨rb, 3, none⟩ _)).more (by intro k hk; simp at hk ⊢; exact .inl hk.symm)) hgo hgr ?_ ?_
  · exact (hb.kept (kept9 w2 g (us.length * 9) k r a s nn m z x nm) (by simpa using hgr.symm)).set_ 3 (.slice (some ⟨g, 0, none⟩) (us.length + 1) cap)
  · rw [← hse]
    exact own_kept (own_set9 ho hil hu) (Kept.setCell ⟨rb, 3, none⟩ (.slice (some ⟨g, 0, none⟩) (us.length + 1) cap)) (fun x hx hm => by simp [Value.ownBlock] at hx hm; exact hgr (by rw [hx, hm]))
theorem alt_finB {B Bo rb g cap c : Nat} {X : List Nat} {A : Option Addr} {us : List Ta} {t : Ta} {w w2 : World} (hr : RowV B Bo X rb 25 f2 (.slice A us.length c) us w) (ht : RT w (Fr B (X ++ rb :: (Value.slice A us.length c).ownBlock.toList) w) t)
    (hk0 : Kept w w2 (Value.slice A us.length c).ownBlock.toList) (hgo : (Value.slice A us.length c).ownBlock = some g ∨ w.heap.size ≤ g) (hgr : g ≠ rb) {v0 : Value}
    (hb : Blk w2 rb 25 (f2 v0)) (ho : w2.ownsRow Bo 25 9 (.slice (some ⟨g, 0, none⟩) (us.length + 1) cap) (us.length + 1) (rowT (us ++ [zT]))) {k r a s nn m z x nm : Value} (hu : t.vals = [k, r, a, s, nn, m, z, x, nm]) :
    ∃ v', RowV B Bo X rb 25 f2 v' (us ++ [t]) ((((((((((w2.setCell ⟨rb, 3, none⟩ (.slice (some ⟨g, 0, none⟩) (us.length + 1) cap)).setCell ⟨g, us.length * 9, none⟩ k).setCell ⟨g, us.length * 9 + 1, none⟩ r).setCell ⟨g, us.length * 9 + 2, none⟩ a).setCell ⟨g, us.length * 9 + 3, none⟩ s).setCell ⟨g, us.length * 9 + 4, none⟩ nn).setCell ⟨g, us.length * 9 + 5, none⟩ m).setCell ⟨g, us.length * 9 + 6, none⟩ z).setCell ⟨g, us.length * 9 + 7, none⟩ x).setCell ⟨g, us.length * 9 + 8, none⟩ nm) ∧ Kept w ((((((((((w2.setCell ⟨rb, 3, none⟩ (.slice (some ⟨g, 0, none⟩) (us.length + 1) cap)).setCell ⟨g, us.length * 9, none⟩ k).setCell ⟨g, us.length * 9 + 1, none⟩ r).setCell ⟨g, us.length * 9 + 2, none⟩ a).setCell ⟨g, us.length * 9 + 3, none⟩ s).setCell ⟨g, us.length * 9 + 4, none⟩ nn).setCell ⟨g, us.length * 9 + 5, none⟩ m).setCell ⟨g, us.length * 9 + 6, none⟩ z).setCell ⟨g, us.length * 9 + 7, none⟩ x).setCell ⟨g, us.length * 9 + 8, none⟩ nm) (rb :: (Value.slice A us.length c).ownBlock.toList) ∧ (v'.ownBlock = (Value.slice A us.length c).ownBlock ∨ ∃ g, v'.ownBlock = some g ∧ w.heap.size ≤ g) := by
  have hil : us.length < (us ++ [zT]).length := by rw [List.length_append]; simp
  have hse : (us ++ [zT]).set us.length t = us ++ [t] := by rw [List.set_append_right _ _ (Nat.le_refl _), Nat.sub_self]; rfl
  refine put_fin (cap := cap) hr ht hk0 (((Kept.setCell ⟨rb, 3, none⟩ _).trans (kept9 _ g (us.length * 9) k r a s nn m z x nm)).more (by intro k hk; simp at hk ⊢; exact .inl hk)) hgo hgr ?_ ?_
  · exact (hb.set_ 3 (.slice (some ⟨g, 0, none⟩) (us.length + 1) cap)).kept (kept9 _ g (us.length * 9) k r a s nn m z x nm) (by simpa using hgr.symm)
  · rw [← hse]
    exact own_set9 (own_kept ho (Kept.setCell (w := w2) ⟨rb, 3, none⟩ (.slice (some ⟨g, 0, none⟩) (us.length + 1) cap)) (fun x hx hm => by simp [Value.ownBlock] at hx hm; exact hgr (by rw [hx, hm]))) hil hu
set_option maxRecDepth 100000 in
set_option maxHeartbeats 2000000 in
theorem alt_any (B Bo : Nat) (X : List Nat) (rb : Nat) (v : Value) (us : List Ta) (t : Ta) (w : World) (hr : RowV B Bo X rb 25 f2 v us w) (ht : RT w (Fr B (X ++ rb :: v.ownBlock.toList) w) t) (hB : Bo ≤ w.heap.size) (hn : us.length ≤ 1048576) (h4 : t.tr.kind = 5 → 0 < t.subs.length) :
    Calls Try.prog 68 #[t.val, .pointer (some ⟨rb, 0, none⟩)] w fun e w' => e = .returned (.tuple #[]) ∧ ∃ v', RowV B Bo X rb 25 f2 v' (us ++ putB t) w' ∧ Kept w w' (rb :: v.ownBlock.toList) ∧ (v'.ownBlock = v.ownBlock ∨ ∃ g, v'.ownBlock = some g ∧ w.heap.size ≤ g) := by
  obtain ⟨i0, hi, hz0, hz1, hz2⟩ := info_parts info_clone_nodes
  obtain ⟨A, c, rfl⟩ := own_shape hr.own
  cases t with
  | mk k r ra rc ast l sa sc mn mx z ix nm =>
  obtain ⟨⟨hR, hrl, hll, hnm⟩, hN, hL⟩ := ht.parts
  have hrb := hr.blk.lt
  have hba : Below w.heap.size w (w.alloc (.cells #[.int .i64 k, .slice ra r.length rc, .int .i64 ast, .slice sa l.length sc, .int .i64 mn, .int .i64 mx, .bool z, .int .i64 ix, .string nm] 25)) := (Below.refl _ _).alloc (Nat.le_refl _) _
  have hways : (k == 5) = true ∨ (k == 5) = false := by
    cases (k == 5) <;> simp
  rcases hways with h2 | h2
  · have hk4 : k = 5 := by simpa using h2
    have hp : putB (Ta.mk k r ra rc ast l sa sc mn mx z ix nm) = l := by rw [putB, if_pos hk4]
    rw [hp]
    have hlp : 0 < l.length := h4 hk4
    clear hk4 hp
    have hb1 := hr.blk.alloc (.cells #[.int .i64 k, .slice ra r.length rc, .int .i64 ast, .slice sa l.length sc, .int .i64 mn, .int .i64 mx, .bool z, .int .i64 ix, .string nm] 25)
    have ho1 := own_below hr.own hba
    have ht1 := Blk.new w 25 [.int .i64 k, .slice ra r.length rc, .int .i64 ast, .slice sa l.length sc, .int .i64 mn, .int .i64 mx, .bool z, .int .i64 ix, .string nm]
    obtain ⟨b, off, rfl, hSb, hcb⟩ := hN.2.2.2.2 hlp
    have hnews : ∀ j u, (rowT l)[j]? = some u → (w.alloc (.cells #[.int .i64 k, .slice ra r.length rc, .int .i64 ast, .slice (some ⟨b, off, none⟩) l.length sc, .int .i64 mn, .int .i64 mx, .bool z, .int .i64 ix, .string nm] 25)).cell? ((⟨b, off, none⟩ : Addr).add j) = some u := fun j u hu => by
      rw [add_lit]
      exact (hba.cell (p := ⟨b, off + j, none⟩) hSb.2.1).trans (hcb j u hu)
    have hbs : Bo ≤ (w.alloc (.cells #[.int .i64 k, .slice ra r.length rc, .int .i64 ast, .slice (some ⟨b, off, none⟩) l.length sc, .int .i64 mn, .int .i64 mx, .bool z, .int .i64 ix, .string nm] 25)).heap.size := Nat.le_trans hB hba.size
    have hsz1 := hba.size
    have e0 : (w.alloc (.cells #[.int .i64 k, .slice ra r.length rc, .int .i64 ast, .slice (some ⟨b, off, none⟩) l.length sc, .int .i64 mn, .int .i64 mx, .bool z, .int .i64 ix, .string nm] 25)).cell? ⟨rb, 3, none⟩ = some (.slice A us.length c) := hb1.cell 3
    have HR := Lib.hid hr
    have HLL := Lib.hid hL
    have HBA := Lib.hid hba
    have HB1 := Lib.hid hb1
    have HO1 := Lib.hid ho1
    have HNW := Lib.hid hnews
    clear hr hL hba hR hN ht hcb hb1 ho1 ht1 hnews
    simp only [Ta.val, Ta.vals]
    go_enter Try.func68, Try.ntmps68
    go_wp2_with (at_builtin; refine wpList_append_lies _ rfl (.tmp 7) (.tmp 9) 23 rfl Bo 25 i0 (.agg #[.int .i64 0, .slice none 0 0, .int .i64 0, .slice none 0 0, .int .i64 0, .int .i64 0, .bool false, .int .i64 0, .string ⟨#[]⟩]) 9 112 Try.underlying23 hi hz0 hz1 hz2 rfl (by decide) (.slice A us.length c) us.length (rowT us) rfl HO1.out ⟨b, off, none⟩ l.length sc (rowT l) rfl (rowT_length l) HNW.out (rowT_one l) hlp (by unfold maxLen; omega) (by omega) hbs _ rfl ?_; intro g cap2 w2 hou2 hg2 hat2 hlt2; have HB2 := Lib.hid (HB1.out.grown hg2 HR.out.sep.symm); have q1 : w2.cell? ⟨rb, 3, none⟩ = some (.slice A us.length c) := HB2.out.cell 3; have q2 := HB2.out.frozen 3; have q3 := HB2.out.lt; have HOU := Lib.hid hou2; have HG2 := Lib.hid hg2; have HAT := Lib.hid hat2; clear hou2 hg2 hat2)
    all_goals
      go_end0
      have hou2 := HOU.out
      have hg2 := HG2.out
      have hat2 := HAT.out
      have hb2 := HB2.out
      have hk : Kept w (w2.setCell ⟨rb, 3, none⟩ (.slice (some ⟨g, 0, none⟩) (us.length + l.length) cap2)) (rb :: (Value.slice A us.length c).ownBlock.toList) :=
        (((Kept.of_below (L := []) HBA.out).trans (Kept.of_grown' hg2)).trans (Kept.setCell _ _)).more (by intro k hk; simp at hk ⊢; rcases hk with h | h; exact .inl (.inr h); exact .inl (.inl h))
      have hgo : (Value.slice A us.length c).ownBlock = some g ∨ w.heap.size ≤ g := hat2.imp id fun h => by rw [h]; exact hsz1
      have hgr : g ≠ rb := fun e => by
        rcases hgo with h | h
        · exact HR.out.sep (by rw [h, e])
        · omega
      have hL' : ∀ x ∈ X ++ rb :: ((Value.slice (some ⟨g, 0, none⟩) (us.length + l.length) cap2).ownBlock).toList, x ∈ X ++ rb :: (Value.slice A us.length c).ownBlock.toList ∨ w.heap.size ≤ x ∨ x < B := fun x hx => by
        simp only [Value.ownBlock, Option.toList_some, List.mem_append, List.mem_cons, List.not_mem_nil, or_false] at hx
        rcases hx with hx | rfl | rfl
        · exact .inl (List.mem_append_left _ hx)
        · exact .inl (by simp)
        · rcases hgo with h | h
          · exact .inl (by rw [h]; simp)
          · exact .inr (.inl h)
      refine ⟨rfl, .slice (some ⟨g, 0, none⟩) (us.length + l.length) cap2, ⟨hb2.set_ 3 _, ?_, ?_, fun h => hgr (by simpa [Value.ownBlock] using h)⟩, hk, ?_⟩
      · rw [List.length_append, rowT_append]
        exact own_kept hou2 (Kept.setCell (w := w2) ⟨rb, 3, none⟩ _) (fun x hx hm => by simp [Value.ownBlock] at hx hm; exact hgr (by rw [hx, hm]))
      · intro u hu
        rcases List.mem_append.1 hu with hu | hu
        · exact (HR.out.els u hu).fr_kept hk (fun x hx => .inl (List.mem_append_right _ hx)) hL'
        · exact (HLL.out u hu).fr_kept hk (fun x hx => .inl (List.mem_append_right _ hx)) hL'
      · rcases hgo with h | h
        · exact .inl h.symm
        · exact .inr ⟨g, rfl, h⟩
  · have hk4 : ¬ k = 5 := by simpa using h2
    have hp : putB (Ta.mk k r ra rc ast l sa sc mn mx z ix nm) = [Ta.mk k r ra rc ast l sa sc mn mx z ix nm] := by rw [putB, if_neg hk4]
    rw [hp]
    clear hk4 hp
    have hb1 := hr.blk.alloc (.cells #[.int .i64 k, .slice ra r.length rc, .int .i64 ast, .slice sa l.length sc, .int .i64 mn, .int .i64 mx, .bool z, .int .i64 ix, .string nm] 25)
    have ho1 := own_below hr.own hba
    have ht1 := Blk.new w 25 [.int .i64 k, .slice ra r.length rc, .int .i64 ast, .slice sa l.length sc, .int .i64 mn, .int .i64 mx, .bool z, .int .i64 ix, .string nm]
    have hbs0 : Bo ≤ (w.alloc (.cells #[.int .i64 k, .slice ra r.length rc, .int .i64 ast, .slice sa l.length sc, .int .i64 mn, .int .i64 mx, .bool z, .int .i64 ix, .string nm] 25)).heap.size := Nat.le_trans hB hba.size
    have hsz1 := hba.size
    simp only [Ta.val, Ta.vals]
    go_enter Try.func68, Try.ntmps68
    go_wp2_with fail
    have HT := Lib.hid ht
    generalize (w.alloc (.cells #[.int .i64 k, .slice ra r.length rc, .int .i64 ast, .slice sa l.length sc, .int .i64 mn, .int .i64 mx, .bool z, .int .i64 ix, .string nm] 25)) = w1 at *
    have hb2 := hb1.alloc (.cells #[.int .i64 0, .slice none 0 0, .int .i64 0, .slice none 0 0, .int .i64 0, .int .i64 0, .bool false, .int .i64 0, .string ⟨#[]⟩] 25)
    have ht2 := ht1.alloc (.cells #[.int .i64 0, .slice none 0 0, .int .i64 0, .slice none 0 0, .int .i64 0, .int .i64 0, .bool false, .int .i64 0, .string ⟨#[]⟩] 25)
    have hb12 : Below w1.heap.size w1 (w1.alloc (.cells #[.int .i64 0, .slice none 0 0, .int .i64 0, .slice none 0 0, .int .i64 0, .int .i64 0, .bool false, .int .i64 0, .string ⟨#[]⟩] 25)) := (Below.refl _ _).alloc (Nat.le_refl _) _
    have ho2 := own_below ho1 hb12
    have hbs : Bo ≤ (w1.alloc (.cells #[.int .i64 0, .slice none 0 0, .int .i64 0, .slice none 0 0, .int .i64 0, .int .i64 0, .bool false, .int .i64 0, .string ⟨#[]⟩] 25)).drew.heap.size := Nat.le_trans hbs0 hb12.size
    have HSZ := Lib.hid (show w.heap.size ≤ (w1.alloc (.cells #[.int .i64 0, .slice none 0 0, .int .i64 0, .slice none 0 0, .int .i64 0, .int .i64 0, .bool false, .int .i64 0, .string ⟨#[]⟩] 25)).drew.heap.size from Nat.le_trans hsz1 hb12.size)
    have e0 : w1.drew.cell? ⟨rb, 3, none⟩ = some (.slice A us.length c) := hb1.cell 3
    have e0' : (w1.alloc (.cells #[.int .i64 0, .slice none 0 0, .int .i64 0, .slice none 0 0, .int .i64 0, .int .i64 0, .bool false, .int .i64 0, .string ⟨#[]⟩] 25)).drew.cell? ⟨rb, 3, none⟩ = some (.slice A us.length c) := hb2.cell 3
    have g0 : w1.drew.cell? ⟨w.heap.size, 0, none⟩ = some (.int .i64 k) := ht1.cell 0
    have f0 : (w1.alloc (.cells #[.int .i64 0, .slice none 0 0, .int .i64 0, .slice none 0 0, .int .i64 0, .int .i64 0, .bool false, .int .i64 0, .string ⟨#[]⟩] 25)).drew.cell? ⟨w.heap.size, 0, none⟩ = some (.int .i64 k) := ht2.cell 0
    have g1 : w1.drew.cell? ⟨w.heap.size, 1, none⟩ = some (.slice ra r.length rc) := ht1.cell 1
    have f2 : (w1.alloc (.cells #[.int .i64 0, .slice none 0 0, .int .i64 0, .slice none 0 0, .int .i64 0, .int .i64 0, .bool false, .int .i64 0, .string ⟨#[]⟩] 25)).drew.cell? ⟨w.heap.size, 1, none⟩ = some (.slice ra r.length rc) := ht2.cell 1
    have g2 : w1.drew.cell? ⟨w.heap.size, 2, none⟩ = some (.int .i64 ast) := ht1.cell 2
    have f2 : (w1.alloc (.cells #[.int .i64 0, .slice none 0 0, .int .i64 0, .slice none 0 0, .int .i64 0, .int .i64 0, .bool false, .int .i64 0, .string ⟨#[]⟩] 25)).drew.cell? ⟨w.heap.size, 2, none⟩ = some (.int .i64 ast) := ht2.cell 2
    have g3 : w1.drew.cell? ⟨w.heap.size, 3, none⟩ = some (.slice sa l.length sc) := ht1.cell 3
    have f3 : (w1.alloc (.cells #[.int .i64 0, .slice none 0 0, .int .i64 0, .slice none 0 0, .int .i64 0, .int .i64 0, .bool false, .int .i64 0, .string ⟨#[]⟩] 25)).drew.cell? ⟨w.heap.size, 3, none⟩ = some (.slice sa l.length sc) := ht2.cell 3
    have g4 : w1.drew.cell? ⟨w.heap.size, 4, none⟩ = some (.int .i64 mn) := ht1.cell 4
    have f4 : (w1.alloc (.cells #[.int .i64 0, .slice none 0 0, .int .i64 0, .slice none 0 0, .int .i64 0, .int .i64 0, .bool false, .int .i64 0, .string ⟨#[]⟩] 25)).drew.cell? ⟨w.heap.size, 4, none⟩ = some (.int .i64 mn) := ht2.cell 4
    have g5 : w1.drew.cell? ⟨w.heap.size, 5, none⟩ = some (.int .i64 mx) := ht1.cell 5
    have f5 : (w1.alloc (.cells #[.int .i64 0, .slice none 0 0, .int .i64 0, .slice none 0 0, .int .i64 0, .int .i64 0, .bool false, .int .i64 0, .string ⟨#[]⟩] 25)).drew.cell? ⟨w.heap.size, 5, none⟩ = some (.int .i64 mx) := ht2.cell 5
    have g6 : w1.drew.cell? ⟨w.heap.size, 6, none⟩ = some (.bool z) := ht1.cell 6
    have f6 : (w1.alloc (.cells #[.int .i64 0, .slice none 0 0, .int .i64 0, .slice none 0 0, .int .i64 0, .int .i64 0, .bool false, .int .i64 0, .string ⟨#[]⟩] 25)).drew.cell? ⟨w.heap.size, 6, none⟩ = some (.bool z) := ht2.cell 6
    have g7 : w1.drew.cell? ⟨w.heap.size, 7, none⟩ = some (.int .i64 ix) := ht1.cell 7
    have f7 : (w1.alloc (.cells #[.int .i64 0, .slice none 0 0, .int .i64 0, .slice none 0 0, .int .i64 0, .int .i64 0, .bool false, .int .i64 0, .string ⟨#[]⟩] 25)).drew.cell? ⟨w.heap.size, 7, none⟩ = some (.int .i64 ix) := ht2.cell 7
    have g8 : w1.drew.cell? ⟨w.heap.size, 8, none⟩ = some (.string nm) := ht1.cell 8
    have f8 : (w1.alloc (.cells #[.int .i64 0, .slice none 0 0, .int .i64 0, .slice none 0 0, .int .i64 0, .int .i64 0, .bool false, .int .i64 0, .string ⟨#[]⟩] 25)).drew.cell? ⟨w.heap.size, 8, none⟩ = some (.string nm) := ht2.cell 8
    have HR := Lib.hid hr
    have HBA := Lib.hid hba
    have HB2 := Lib.hid hb2
    have HO2 := Lib.hid ho2
    have HB12 := Lib.hid hb12
    have hlt01 : (us.length : Int) < (us.length : Int) + 1 := by omega
    clear hr hL hba hR hN ht hb1 hb2 ht1 ht2 ho1 ho2 hb12
    go_region_law (first
      | (refine step_append_lies _ rfl (.tmp 13) (.tmp 16) 23 rfl Bo 25 i0 (.agg #[.int .i64 0, .slice none 0 0, .int .i64 0, .slice none 0 0, .int .i64 0, .int .i64 0, .bool false, .int .i64 0, .string ⟨#[]⟩]) 9 112 Try.underlying23 hi hz0 hz1 hz2 rfl (by decide) (.slice A us.length c) us.length (rowT us) rfl HO2.out.drew ⟨w1.heap.size, 0, none⟩ 1 1 [.int .i64 0, .slice none 0 0, .int .i64 0, .slice none 0 0, .int .i64 0, .int .i64 0, .bool false, .int .i64 0, .string ⟨#[]⟩] rfl rfl (new_atT w1 _ [.int .i64 0, .slice none 0 0, .int .i64 0, .slice none 0 0, .int .i64 0, .int .i64 0, .bool false, .int .i64 0, .string ⟨#[]⟩]) zT_one (by decide) (by unfold maxLen; omega) (by omega) hbs _ rfl ?_; intro g cap2 w2 hou2 hg2 hat2 hlt2; have hgo := at_old HSZ.out hat2; have hgr : g ≠ rb := (fun e => (by rcases hgo with h | h; exact HR.out.sep (by rw [h, e]); omega)); have hb2 := HB2.out.drew.grown hg2 HR.out.sep.symm; have q1 : w2.cell? ⟨rb, 3, none⟩ = some (.slice A us.length c) := hb2.cell 3; have q2 := hb2.frozen 3; have q3 := hb2.lt; have HOU := Lib.hid (own_zero hou2); have HOS := Lib.hid (own_kept HOU.out (Kept.setCell (w := w2) ⟨rb, 3, none⟩ (.slice (some ⟨g, 0, none⟩) (us.length + 1) cap2)) (fun x hx hm => by simp [Value.ownBlock] at hx hm; exact hgr (by rw [hx, hm]))); have d0 : w2.cell? ⟨g, us.length * 9, none⟩ = some (.int .i64 0) := own_cell HOU.out (zT_at us 0 (by omega)); have e0 := own_frozen HOU.out (us.length * 9); have x0 : (w2.setCell ⟨rb, 3, none⟩ (.slice (some ⟨g, 0, none⟩) (us.length + 1) cap2)).cell? ⟨g, us.length * 9, none⟩ = some (.int .i64 0) := own_cell HOS.out (zT_at us 0 (by omega)); have y0 := own_frozen HOS.out (us.length * 9); have d1 : w2.cell? ⟨g, us.length * 9 + 1, none⟩ = some (.slice none 0 0) := own_cell HOU.out (zT_at us 1 (by omega)); have e1 := own_frozen HOU.out (us.length * 9 + 1); have x1 : (w2.setCell ⟨rb, 3, none⟩ (.slice (some ⟨g, 0, none⟩) (us.length + 1) cap2)).cell? ⟨g, us.length * 9 + 1, none⟩ = some (.slice none 0 0) := own_cell HOS.out (zT_at us 1 (by omega)); have y1 := own_frozen HOS.out (us.length * 9 + 1); have d2 : w2.cell? ⟨g, us.length * 9 + 2, none⟩ = some (.int .i64 0) := own_cell HOU.out (zT_at us 2 (by omega)); have e2 := own_frozen HOU.out (us.length * 9 + 2); have x2 : (w2.setCell ⟨rb, 3, none⟩ (.slice (some ⟨g, 0, none⟩) (us.length + 1) cap2)).cell? ⟨g, us.length * 9 + 2, none⟩ = some (.int .i64 0) := own_cell HOS.out (zT_at us 2 (by omega)); have y2 := own_frozen HOS.out (us.length * 9 + 2); have d3 : w2.cell? ⟨g, us.length * 9 + 3, none⟩ = some (.slice none 0 0) := own_cell HOU.out (zT_at us 3 (by omega)); have e3 := own_frozen HOU.out (us.length * 9 + 3); have x3 : (w2.setCell ⟨rb, 3, none⟩ (.slice (some ⟨g, 0, none⟩) (us.length + 1) cap2)).cell? ⟨g, us.length * 9 + 3, none⟩ = some (.slice none 0 0) := own_cell HOS.out (zT_at us 3 (by omega)); have y3 := own_frozen HOS.out (us.length * 9 + 3); have d4 : w2.cell? ⟨g, us.length * 9 + 4, none⟩ = some (.int .i64 0) := own_cell HOU.out (zT_at us 4 (by omega)); have e4 := own_frozen HOU.out (us.length * 9 + 4); have x4 : (w2.setCell ⟨rb, 3, none⟩ (.slice (some ⟨g, 0, none⟩) (us.length + 1) cap2)).cell? ⟨g, us.length * 9 + 4, none⟩ = some (.int .i64 0) := own_cell HOS.out (zT_at us 4 (by omega)); have y4 := own_frozen HOS.out (us.length * 9 + 4); have d5 : w2.cell? ⟨g, us.length * 9 + 5, none⟩ = some (.int .i64 0) := own_cell HOU.out (zT_at us 5 (by omega)); have e5 := own_frozen HOU.out (us.length * 9 + 5); have x5 : (w2.setCell ⟨rb, 3, none⟩ (.slice (some ⟨g, 0, none⟩) (us.length + 1) cap2)).cell? ⟨g, us.length * 9 + 5, none⟩ = some (.int .i64 0) := own_cell HOS.out (zT_at us 5 (by omega)); have y5 := own_frozen HOS.out (us.length * 9 + 5); have d6 : w2.cell? ⟨g, us.length * 9 + 6, none⟩ = some (.bool false) := own_cell HOU.out (zT_at us 6 (by omega)); have e6 := own_frozen HOU.out (us.length * 9 + 6); have x6 : (w2.setCell ⟨rb, 3, none⟩ (.slice (some ⟨g, 0, none⟩) (us.length + 1) cap2)).cell? ⟨g, us.length * 9 + 6, none⟩ = some (.bool false) := own_cell HOS.out (zT_at us 6 (by omega)); have y6 := own_frozen HOS.out (us.length * 9 + 6); have d7 : w2.cell? ⟨g, us.length * 9 + 7, none⟩ = some (.int .i64 0) := own_cell HOU.out (zT_at us 7 (by omega)); have e7 := own_frozen HOU.out (us.length * 9 + 7); have x7 : (w2.setCell ⟨rb, 3, none⟩ (.slice (some ⟨g, 0, none⟩) (us.length + 1) cap2)).cell? ⟨g, us.length * 9 + 7, none⟩ = some (.int .i64 0) := own_cell HOS.out (zT_at us 7 (by omega)); have y7 := own_frozen HOS.out (us.length * 9 + 7); have d8 : w2.cell? ⟨g, us.length * 9 + 8, none⟩ = some (.string ⟨#[]⟩) := own_cell HOU.out (zT_at us 8 (by omega)); have e8 := own_frozen HOU.out (us.length * 9 + 8); have x8 : (w2.setCell ⟨rb, 3, none⟩ (.slice (some ⟨g, 0, none⟩) (us.length + 1) cap2)).cell? ⟨g, us.length * 9 + 8, none⟩ = some (.string ⟨#[]⟩) := own_cell HOS.out (zT_at us 8 (by omega)); have y8 := own_frozen HOS.out (us.length * 9 + 8); have q5 : (((((((((w2.setCell ⟨g, us.length * 9, none⟩ (.int .i64 k)).setCell ⟨g, us.length * 9 + 1, none⟩ (.slice ra r.length rc)).setCell ⟨g, us.length * 9 + 2, none⟩ (.int .i64 ast)).setCell ⟨g, us.length * 9 + 3, none⟩ (.slice sa l.length sc)).setCell ⟨g, us.length * 9 + 4, none⟩ (.int .i64 mn)).setCell ⟨g, us.length * 9 + 5, none⟩ (.int .i64 mx)).setCell ⟨g, us.length * 9 + 6, none⟩ (.bool z)).setCell ⟨g, us.length * 9 + 7, none⟩ (.int .i64 ix)).setCell ⟨g, us.length * 9 + 8, none⟩ (.string nm)).cell? ⟨rb, 3, none⟩ = some (.slice A us.length c) := ((kept9 w2 g (us.length * 9) (.int .i64 k) (.slice ra r.length rc) (.int .i64 ast) (.slice sa l.length sc) (.int .i64 mn) (.int .i64 mx) (.bool z) (.int .i64 ix) (.string nm)).cell (p := ⟨rb, 3, none⟩) q3 (by simpa using hgr.symm)).trans q1; have q6 := (hb2.kept (kept9 w2 g (us.length * 9) (.int .i64 k) (.slice ra r.length rc) (.int .i64 ast) (.slice sa l.length sc) (.int .i64 mn) (.int .i64 mx) (.bool z) (.int .i64 ix) (.string nm)) (by simpa using hgr.symm)).frozen 3; have HGO := Lib.hid hgo; have HGR := Lib.hid hgr; have HB3 := Lib.hid hb2; have HG2 := Lib.hid hg2; clear hgo hgr hb2 hg2 hou2 hat2))
    all_goals
      have hk0 := ((Kept.of_below (L := []) HBA.out).trans ((Kept.of_below (L := []) HB12.out).trans ((Kept.drew (L := [])).trans (Kept.of_grown' HG2.out)))).more (M := (Value.slice A us.length c).ownBlock.toList) (by intro k hk; simp at hk ⊢; exact .inl hk)
      have hu0 : (Ta.mk k r ra rc ast l sa sc mn mx z ix nm).vals = [.int .i64 k, .slice ra r.length rc, .int .i64 ast, .slice sa l.length sc, .int .i64 mn, .int .i64 mx, .bool z, .int .i64 ix, .string nm] := rfl
      go_end0
      refine ⟨rfl, ?_⟩
      first
        | with_reducible exact alt_finA HR.out HT.out hk0 HGO.out HGR.out HB3.out HOU.out hu0
        | with_reducible exact alt_finB HR.out HT.out hk0 HGO.out HGR.out HB3.out HOU.out hu0
end Go.Proofs.Ytfgelkfnbohmmaa
