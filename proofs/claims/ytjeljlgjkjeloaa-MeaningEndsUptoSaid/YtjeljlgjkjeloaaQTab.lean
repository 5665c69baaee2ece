/- Tables of places: words; heronlaw06.lines, stays. -/
import Derived.Test.YtjeljlgjkjeloaaQEndsW
import Derived.Test.YtjeljlgjkjeloaaQTreeW
import Derived.Test.YtjeljlgjkjeloaaQRes
import Derived.BigRegion
import Derived.Test.YtjeljlgjkjeloaaQLs
namespace Go.Proofs.Ytjeljlgjkjeloaa
open Go.RowKit

abbrev Fn2 := Nat → Nat → Bool
def rowB (n : Nat) (f : Fn2) (i : Nat) : List Bool := (List.range n).map (f i)
theorem rowB_length (n : Nat) (f : Fn2) (i : Nat) : (rowB n f i).length = n := by simp [rowB]
theorem rowB_get {n : Nat} {f : Fn2} {i k : Nat} (h : k < n) : (rowB n f i)[k]? = some (f i k) := by simp [rowB, h]
def upd (f : Fn2) (i k : Nat) (v : Bool) : Fn2 := fun a b => if a = i ∧ b = k then v else f a b
theorem rowB_set {n : Nat} {f : Fn2} {i k : Nat} {v : Bool} : (rowB n f i).set k v = rowB n (upd f i k v) i := by
  apply List.ext_getElem?
  intro j
  rw [List.getElem?_set]
  by_cases h : j < n
  · rw [rowB_get h, rowB_get h, rowB_length]
    unfold upd
    by_cases e : k = j
    · rw [if_pos e, if_pos (by omega), if_pos ⟨rfl, e.symm⟩]
    · rw [if_neg e, if_neg fun g => e g.2.symm]
  · rw [List.getElem?_eq_none (by rw [rowB_length]; omega), List.getElem?_eq_none (by rw [rowB_length]; omega), rowB_length]
    by_cases e : k = j
    · rw [if_pos e, if_neg (by omega)]
    · rw [if_neg e]
theorem rowB_other {n : Nat} {f : Fn2} {i j k : Nat} {v : Bool} (h : j ≠ i) : rowB n (upd f i k v) j = rowB n f j := by
  unfold rowB upd
  exact List.map_congr_left fun a _ => if_neg fun g => h g.1
theorem rowB_congr {n : Nat} {f g : Fn2} {i : Nat} (h : ∀ k, k < n → f i k = g i k) : rowB n f i = rowB n g i := List.map_congr_left fun a ha => h a (List.mem_range.1 ha)
def slV (n g : Nat) : Value := .slice (some ⟨g, 0, none⟩) n n
/-- A table in memory: a row of rows, each in a block of its own. -/
structure Tab (w : World) (B b o n : Nat) (gs : List Nat) (f : Fn2) : Prop where
  len : gs.length = n
  out : B ≤ b ∧ b < w.heap.size ∧ b ∉ gs
  row : ∀ i g, gs[i]? = some g → w.cell? ⟨b, o + i, none⟩ = some (slV n g) ∧ B ≤ g ∧ Blk w g 4 (bls (rowB n f i))
  nodup : gs.Nodup
section
variable {w w' : World} {B b o n : Nat} {gs : List Nat} {f f' : Fn2}
theorem Tab.below (h : Tab w B b o n gs f) (k : Below w.heap.size w w') : Tab w' B b o n gs f :=
  ⟨h.len, ⟨h.out.1, Nat.lt_of_lt_of_le h.out.2.1 k.size, h.out.2.2⟩, fun i g hg => by
    obtain ⟨h1, h2, h3⟩ := h.row i g hg
    exact ⟨(k.cell (p := ⟨b, o + i, none⟩) h.out.2.1).trans h1, h2, h3.below k h3.lt⟩, h.nodup⟩
theorem Tab.congr (h : Tab w B b o n gs f) (e : ∀ i k, i < n → k < n → f i k = f' i k) : Tab w B b o n gs f' :=
  ⟨h.len, h.out, fun i g hg => by
    obtain ⟨h1, h2, h3⟩ := h.row i g hg
    have hi : i < n := by rw [← h.len]; exact (List.getElem?_eq_some_iff.1 hg).1
    exact ⟨h1, h2, by rw [← rowB_congr (f := f) (g := f') fun k hk => e i k hi hk]; exact h3⟩, h.nodup⟩
theorem Tab.low (h : Tab w B b o n gs f) {B' : Nat} (hB : B' ≤ B) : Tab w B' b o n gs f :=
  ⟨h.len, ⟨Nat.le_trans hB h.out.1, h.out.2⟩, fun i g hg => by
    obtain ⟨h1, h2, h3⟩ := h.row i g hg
    exact ⟨h1, Nat.le_trans hB h2, h3⟩, h.nodup⟩
theorem nodup_idx {l : List Nat} (h : l.Nodup) {i j x : Nat} (hi : l[i]? = some x) (hj : l[j]? = some x) : i = j := by
  induction l generalizing i j with
  | nil => simp at hi
  | cons a l ih =>
    rw [List.nodup_cons] at h
    cases i with
    | zero =>
      cases j with
      | zero => rfl
      | succ j =>
        simp only [List.getElem?_cons_zero, Option.some.injEq] at hi
        subst hi
        exact absurd (List.mem_of_getElem? (by simpa using hj)) h.1
    | succ i =>
      cases j with
      | zero =>
        simp only [List.getElem?_cons_zero, Option.some.injEq] at hj
        subst hj
        exact absurd (List.mem_of_getElem? (by simpa using hi)) h.1
      | succ j =>
        have := ih h.2 (i := i) (j := j) (by simpa using hi) (by simpa using hj)
        omega
theorem Tab.set_ (h : Tab w B b o n gs f) {i g k : Nat} (hg : gs[i]? = some g) (v : Bool) : Tab (w.setCell ⟨g, k, none⟩ (.bool v)) B b o n gs (upd f i k v) := by
  have hk : Kept w (w.setCell ⟨g, k, none⟩ (.bool v)) [g] := Kept.setCell _ _
  refine ⟨h.len, ⟨h.out.1, Nat.lt_of_lt_of_le h.out.2.1 hk.size, h.out.2.2⟩, fun j g' hj => ?_, h.nodup⟩
  obtain ⟨h1, h2, h3⟩ := h.row j g' hj
  have hbg : b ≠ g := fun e => h.out.2.2 (by rw [e]; exact List.mem_of_getElem? hg)
  refine ⟨(hk.cell (p := ⟨b, o + j, none⟩) h.out.2.1 (by simpa using hbg)).trans h1, h2, ?_⟩
  by_cases e : j = i
  · subst e
    rw [hg] at hj
    cases hj
    have := h3.set_ k (.bool v)
    rwa [bls_set, rowB_set] at this
  · rw [rowB_other e]
    exact h3.kept hk (by
      simp only [List.mem_singleton]
      intro e2
      subst e2
      exact e (nodup_idx h.nodup hj hg))
/-- What is read of a table. -/
theorem Tab.at_ (h : Tab w B b o n gs f) {i : Nat} (hi : i < n) : ∃ g, gs[i]? = some g ∧ w.cell? ⟨b, o + i, none⟩ = some (.slice (some ⟨g, 0, none⟩) n n) ∧ B ≤ g ∧ g < w.heap.size ∧ (∀ k, k < n → w.cell? ⟨g, k, none⟩ = some (.bool (f i k))) ∧ ∀ k, w.frozen? ⟨g, k, none⟩ = false := by
  obtain ⟨g, hg⟩ : ∃ g, gs[i]? = some g := ⟨_, List.getElem?_eq_getElem (by rw [h.len]; exact hi)⟩
  obtain ⟨h1, h2, h3⟩ := h.row i g hg
  exact ⟨g, hg, h1, h2, h3.lt, fun k hk => by rw [h3.cell]; exact bls_get (rowB_get hk), fun k => h3.frozen k⟩
end
/-- A table is returned. -/
def TabRet (n : Nat) (f : Fn2) (w : World) (e : Ending) (w' : World) : Prop := ∃ b o c gs, e = .returned (.slice (some ⟨b, o, none⟩) n c) ∧ Below w.heap.size w w' ∧ Tab w' w.heap.size b o n gs f
theorem info_rowB : (Try.prog.info? 38).map (fun i => (i.zero, i.size, i.bytes)) = some (some (.slice none 0 0), 1, 24) := by kernel_rfl
theorem bool_ne_row : 38 ≠ 4 := by decide
set_option maxRecDepth 100000 in
set_option maxHeartbeats 2000000 in
theorem lines_any (n : Nat) (w : World) (h1 : 1 ≤ n) (hn : n ≤ 1048576) :
    Calls Try.prog 33 #[.int .i64 (n : Int)] w (TabRet n (fun _ _ => false) w) := by
  obtain ⟨i0, hinf, hz0, hz1, hz2⟩ := info_parts info_rowB
  have hmk := make_bools n (by omega)
  have HB0 := Lib.hid (Below.refl w.heap.size w)
  go_enter Try.func33, Try.ntmps33
  go_wp2_with fail
  go_loopw [3, 4] (fun ov iv wr => ∃ (i : Nat) (gs : List Nat), i ≤ n ∧ iv = .int .i64 (i : Int) ∧ gs.length = i ∧ wr.ownsRow w.heap.size 38 1 ov i (gs.map (slV n)) ∧ (∀ g ∈ gs, w.heap.size ≤ g ∧ Blk wr g 4 (bls (List.replicate n false))) ∧ gs.Nodup ∧ Below w.heap.size w wr) (fun _ iv _ => n - (intOf iv).toNat)
  case atStart => exact ⟨0, [], Nat.zero_le _, rfl, rfl, World.ownsRow_nil _ _ _ _, by simp, by simp, HB0.out⟩
  case round =>
    obtain ⟨i, gs, hi, rfl, hgl, hown, hgs, hnd, hb⟩ := hrel
    obtain ⟨A, c, rfl⟩ := own_shape hown
    by_cases hlt : i < n
    · have hlt2 : (i : Int) < (n : Int) := by omega
      have hba : Below wr.heap.size wr ((wr.alloc (.cells (bls (List.replicate n false)).toArray 4)).alloc (.cells #[.slice (some ⟨wr.heap.size, 0, none⟩) n n] 38)) := two_below wr _ _
      have HOW := Lib.hid (own_below hown hba)
      have HGS := Lib.hid (fun g hg => (⟨(hgs g hg).1, (hgs g hg).2.below hba (hgs g hg).2.lt⟩ : w.heap.size ≤ g ∧ Blk _ g 4 (bls (List.replicate n false))))
      have HLT := Lib.hid (fun g hg => (hgs g hg).2.lt)
      have HNG := Lib.hid ((Blk.new wr 4 (bls (List.replicate n false))).alloc (.cells #[.slice (some ⟨wr.heap.size, 0, none⟩) n n] 38))
      have HND := Lib.hid hnd
      have hnw : Reads ((wr.alloc (.cells (bls (List.replicate n false)).toArray 4)).alloc (.cells #[.slice (some ⟨wr.heap.size, 0, none⟩) n n] 38)) ((wr.alloc (.cells (bls (List.replicate n false)).toArray 4)).alloc (.cells #[.slice (some ⟨wr.heap.size, 0, none⟩) n n] 38)).heap.size 1 (some ⟨wr.heap.size + 1, 0, none⟩) 1 1 [slV n wr.heap.size] :=
        (two_blk wr (.cells (bls (List.replicate n false)).toArray 4) 38 [slV n wr.heap.size]).reads (size := 1) (n := 1) (c := 1) (by omega) (by omega) (by simp)
      have HNEW := Lib.hid hnw
      have HBW := Lib.hid (hb.trans (hba.mono hb.size))
      have hs1 := hb.size
      have HWS := Lib.hid hs1
      have hsz : w.heap.size ≤ ((wr.alloc (.cells (bls (List.replicate n false)).toArray 4)).alloc (.cells #[.slice (some ⟨wr.heap.size, 0, none⟩) n n] 38)).heap.size := by simp; omega
      have HGL := Lib.hid hgl
      have hmx : i + 1 ≤ maxLen := by unfold maxLen; omega
      have hmb : (i + 1) * 24 ≤ 140737488355328 := by omega
      have hw1 : IntKind.i64.wrap ((i : Int) + 1) = ((i + 1 : Nat) : Int) := by rw [IntKind.wrap_i64]; omega
      clear hown hgs hnd hb hba hnw hgl hs1
      go_wp2_with (at_builtin; refine wpList_append_reads rfl (.tmp 10) (.tmp 13) 39 rfl w.heap.size 38 i0 (.slice none 0 0) 1 24 Try.underlying39 hinf hz0 hz1 hz2 rfl (by decide) (.slice A i c) i (gs.map (slV n)) rfl HOW.out (some ⟨wr.heap.size + 1, 0, none⟩) _ 1 1 [slV n wr.heap.size] rfl (fun h => by cases h) HNEW.out (fun x hx => by simp only [List.mem_singleton] at hx; subst hx; rfl) hmx hmb hsz ?_; intro v3 w3 ha3; have HA3 := Lib.hid ha3; clear ha3)
      go_roundw
      case rel =>
        have hkk : Kept _ w3 (Value.slice A i c).ownBlock.toList := Kept.of_grown' HA3.out.grown
        have hfar : ∀ g cs, Blk ((wr.alloc (.cells (bls (List.replicate n false)).toArray 4)).alloc (.cells #[.slice (some ⟨wr.heap.size, 0, none⟩) n n] 38)) g 4 cs → Blk w3 g 4 cs := fun g cs hg => hg.grown HA3.out.grown (blk_apart HOW.out hg bool_ne_row)
        refine ⟨i + 1, gs ++ [wr.heap.size], by omega, by first | go_num | rfl, by rw [List.length_append, HGL.out]; rfl, by rw [List.map_append]; exact HA3.out.own, fun g hg => ?_, ?_, Below.kept HBW.out hkk (fun b hb => (HOW.out.lt b (by simpa using hb)).1) hsz⟩
        · rcases List.mem_append.1 hg with hg | hg
          · exact ⟨(HGS.out g hg).1, hfar g _ (HGS.out g hg).2⟩
          · rw [List.mem_singleton] at hg; subst hg
            exact ⟨HWS.out, hfar _ _ HNG.out⟩
        · refine List.nodup_append.2 ⟨HND.out, by simp, fun a ha x hx e => ?_⟩
          rw [List.mem_singleton] at hx; subst hx; subst e
          exact absurd (HLT.out _ ha) (by omega)
      case measure => simp [intOf]; omega
    · obtain rfl : i = n := by omega
      have hlt2 : ¬ ((i : Int) < (i : Int)) := by omega
      obtain ⟨g, rfl, -, hg1, hg2⟩ := own_form hown (by omega)
      have HT := Lib.hid (show Tab wr w.heap.size g 0 i gs (fun _ _ => false) from by
        obtain ⟨g', cc, zs, e1, hblk, -, -, -⟩ := Blk.of_own hown (by omega)
        simp only [Value.slice.injEq, Option.some.injEq, Addr.mk.injEq, and_true] at e1
        obtain ⟨rfl, -⟩ := e1
        refine ⟨hgl, ⟨hg1, hg2, fun hm => ?_⟩, fun j x hx => ⟨?_, (hgs x (List.mem_of_getElem? hx)).1, ?_⟩, hnd⟩
        · have := blk_apart hown (hgs g hm).2 bool_ne_row
          exact this rfl
        · rw [Nat.zero_add, hblk.cell, List.getElem?_append_left (by rw [List.length_map, hgl]; rw [← hgl]; exact (List.getElem?_eq_some_iff.1 hx).1), List.getElem?_map, hx]; rfl
        · have := (hgs x (List.mem_of_getElem? hx)).2
          have e : rowB i (fun _ _ => false) j = List.replicate i false := by
            apply List.ext_getElem?
            intro y
            by_cases hy : y < i
            · rw [rowB_get hy, List.getElem?_replicate, if_pos hy]
            · rw [List.getElem?_eq_none (by rw [rowB_length]; omega), List.getElem?_replicate, if_neg hy]
          rw [e]; exact this)
      have HB := Lib.hid hb
      clear hown hgs hnd hb hgl
      go_wp2_with fail
      go_ret
      exact ⟨g, 0, c, gs, rfl, HB.out, HT.out⟩
set_option maxRecDepth 100000 in
set_option maxHeartbeats 2000000 in
theorem stays_any (n : Nat) (w : World) (h1 : 1 ≤ n) (hn : n ≤ 1048576) :
    Calls Try.prog 34 #[.int .i64 (n : Int)] w (TabRet n (fun i j => decide (i = j)) w) := by
  go_enter Try.func34, Try.ntmps34
  go_wp2_with fail
  refine (lines_any n w h1 hn).mono ?_
  rintro e w1 ⟨b, o, c, gs, rfl, hb1, ht1⟩
  have HB1 := Lib.hid hb1
  have HT1 := Lib.hid ht1
  clear hb1 ht1
  simp only []
  go_wp2_with fail
  go_loopw [4] (fun iv wr => ∃ i : Nat, i ≤ n ∧ iv = .int .i64 (i : Int) ∧ Below w.heap.size w wr ∧ Tab wr w.heap.size b o n gs (fun a k => decide (a = k ∧ a < i))) (fun iv _ => n - (intOf iv).toNat)
  case atStart => exact ⟨0, Nat.zero_le _, rfl, HB1.out, HT1.out.congr fun i k _ _ => by simp⟩
  case round =>
    obtain ⟨i, hi, rfl, hb, ht⟩ := hrel
    have HB := Lib.hid hb
    have HT := Lib.hid ht
    clear hb ht
    by_cases hlt : i < n
    · have hlt2 : (i : Int) < (n : Int) := by omega
      obtain ⟨g, hg, hc, hg1, hg2, hck, hfz⟩ := HT.out.at_ hlt
      have hck1 := hck i hlt
      have hfz1 := hfz i
      have HG := Lib.hid hg
      have hsz := HB.out.size
      clear hck hfz hg
      go_wp2_with fail
      go_roundw
      case rel =>
        refine ⟨i + 1, by omega, by go_num, Below.kept HB.out (Kept.setCell _ _) (by simp; omega) HB.out.size, (HT.out.set_ HG.out true).congr fun a k ha hk => ?_⟩
        unfold upd
        by_cases e : a = i ∧ k = i
        · rw [if_pos e]; obtain ⟨rfl, rfl⟩ := e; simp
        · rw [if_neg e, decide_eq_decide]; omega
      case measure => simp [intOf]; omega
    · obtain rfl : i = n := by omega
      have hlt2 : ¬ ((i : Int) < (i : Int)) := by omega
      go_wp2_with fail
      go_ret
      exact ⟨b, o, c, gs, rfl, HB.out, HT.out.congr fun a k ha hk => by rw [decide_eq_decide]; omega⟩
end Go.Proofs.Ytjeljlgjkjeloaa
/- heronlaw06.or. -/
namespace Go.Proofs.Ytjeljlgjkjeloaa
open Go.RowKit

set_option maxRecDepth 100000 in
set_option maxHeartbeats 4000000 in
theorem or_any {n ba oa ca bb ob cb Ba Bb : Nat} {ga gb : List Nat} {fa fb : Fn2} (w : World) (h1 : 1 ≤ n) (hn : n ≤ 1048576) (ha : Tab w Ba ba oa n ga fa) (hb : Tab w Bb bb ob n gb fb) :
    Calls Try.prog 37 #[.slice (some ⟨ba, oa, none⟩) n ca, .slice (some ⟨bb, ob, none⟩) n cb] w (TabRet n (fun i k => fa i k || fb i k) w) := by
  have HA := Lib.hid ha
  have HB := Lib.hid hb
  have HLI := Lib.hid (lines_any n w h1 hn)
  clear ha hb
  go_enter Try.func37, Try.ntmps37
  go_wp2_with fail
  refine HLI.out.mono ?_
  rintro e w1 ⟨b, o, c, gs, rfl, hb1, ht1⟩
  have HB1 := Lib.hid hb1
  have HT1 := Lib.hid ht1
  clear hb1 ht1
  simp only []
  go_wp2_with fail
  go_loopw [6] (fun iv wr => ∃ i : Nat, i ≤ n ∧ iv = .int .i64 (i : Int) ∧ Below w.heap.size w wr ∧ Tab wr w.heap.size b o n gs (fun a x => decide (a < i) && (fa a x || fb a x))) (fun iv _ => n - (intOf iv).toNat)
  case atStart => exact ⟨0, Nat.zero_le _, rfl, HB1.out, HT1.out.congr fun i k _ _ => by simp⟩
  case round =>
    obtain ⟨i, hi, rfl, hb, ht⟩ := hrel
    have HBO := Lib.hid hb
    have HTO := Lib.hid ht
    clear hb ht
    by_cases hlt : i < n
    · have hlt2 : (i : Int) < (n : Int) := by omega
      have HLT := Lib.hid hlt
      go_wp2_with fail
      go_loopw [7] (fun kv wr => ∃ k : Nat, k ≤ n ∧ kv = .int .i64 (k : Int) ∧ Below w.heap.size w wr ∧ Tab wr w.heap.size b o n gs (fun a x => (decide (a < i) || (decide (a = i) && decide (x < k))) && (fa a x || fb a x))) (fun kv _ => n - (intOf kv).toNat)
      case atStart => exact ⟨0, Nat.zero_le _, rfl, HBO.out, HTO.out.congr fun a k _ _ => by simp⟩
      case round =>
        obtain ⟨k, hk, rfl, hb, ht⟩ := hrel
        have HBK := Lib.hid hb
        have HTK := Lib.hid ht
        clear hb ht
        by_cases hlk : k < n
        · have hlk2 : (k : Int) < (n : Int) := by omega
          obtain ⟨g, hg, hc, hg1, hg2, hck, hfz⟩ := HTK.out.at_ hlt
          obtain ⟨xa, -, hca, -, hxa, hcka, -⟩ := (HA.out.at_ hlt)
          obtain ⟨xb, -, hcb, -, hxb, hckb, -⟩ := (HB.out.at_ hlt)
          have x1 : wr.cell? ⟨ba, oa + i, none⟩ = some (.slice (some ⟨xa, 0, none⟩) n n) := (HBK.out.cell (p := ⟨ba, oa + i, none⟩) HA.out.out.2.1).trans hca
          have x2 : wr.cell? ⟨bb, ob + i, none⟩ = some (.slice (some ⟨xb, 0, none⟩) n n) := (HBK.out.cell (p := ⟨bb, ob + i, none⟩) HB.out.out.2.1).trans hcb
          have x3 : wr.cell? ⟨xa, k, none⟩ = some (.bool (fa i k)) := (HBK.out.cell (p := ⟨xa, k, none⟩) hxa).trans (hcka k hlk)
          have x4 : wr.cell? ⟨xb, k, none⟩ = some (.bool (fb i k)) := (HBK.out.cell (p := ⟨xb, k, none⟩) hxb).trans (hckb k hlk)
          have x5 := hck k hlk
          have x6 := hfz k
          have HG := Lib.hid hg
          have hsz := HBK.out.size
          obtain ⟨va, hva⟩ : ∃ va, va = fa i k := ⟨_, rfl⟩
          obtain ⟨vb, hvb⟩ : ∃ vb, vb = fb i k := ⟨_, rfl⟩
          rw [← hva] at x3
          rw [← hvb] at x4
          have HV := Lib.hid (show fa i k = va ∧ fb i k = vb from ⟨hva.symm, hvb.symm⟩)
          clear hck hfz hg hca hcb hcka hckb hva hvb
          have HFAR := Lib.hid (show g ≠ b ∧ g ≠ ba ∧ g ≠ bb ∧ g ≠ xa ∧ g ≠ xb from ⟨fun e => HTK.out.out.2.2 (by rw [← e]; exact List.mem_of_getElem? HG.out), by have := HA.out.out.2.1; omega, by have := HB.out.out.2.1; omega, by omega, by omega⟩)
          have HREL := Lib.hid (show ∀ wq v, wq = (wr.setCell ⟨g, k, none⟩ (.bool v)).drew → v = (va || vb) → Below w.heap.size w wq ∧ Tab wq w.heap.size b o n gs (fun a x => (decide (a < i) || (decide (a = i) && decide (x < k + 1))) && (fa a x || fb a x)) from fun wq v hq hv => by
            subst hq
            refine ⟨bdrewN (Below.kept HBK.out (Kept.setCell _ _) (by simp; omega) HBK.out.size) 1, ((HTK.out.set_ HG.out v).congr fun a x ha hx => ?_ : Tab (wr.setCell ⟨g, k, none⟩ (.bool v)) w.heap.size b o n gs _).below (bdrewN (Below.refl _ _) 1)⟩
            unfold upd
            by_cases e : a = i ∧ x = k
            · rw [if_pos e]; obtain ⟨rfl, rfl⟩ := e; rw [hv, HV.out.1, HV.out.2]; simp
            · rw [if_neg e]
              simp only []
              have : (decide (a < i) || (decide (a = i) && decide (x < k))) = (decide (a < i) || (decide (a = i) && decide (x < k + 1))) := by
                rw [Bool.eq_iff_iff]; simp only [Bool.or_eq_true, Bool.and_eq_true, decide_eq_true_eq]; omega
              rw [this])
          cases va with
          | true =>
            go_wp2_with fail
            go_region
            go_wp2_with fail
            go_roundw
            case rel => exact ⟨k + 1, by omega, by go_num, HREL.out _ true rfl (by simp)⟩
            case measure => simp [intOf]; omega
          | false =>
            go_wp2_with fail
            go_region
            go_wp2_with fail
            go_roundw
            case rel => exact ⟨k + 1, by omega, by go_num, HREL.out _ vb rfl (by simp)⟩
            case measure => simp [intOf]; omega
        · obtain rfl : k = n := by omega
          have hlk2 : ¬ ((k : Int) < (k : Int)) := by omega
          go_wp2_with fail
          go_roundw
          case rel =>
            refine ⟨i + 1, by omega, by go_num, HBK.out, HTK.out.congr fun a x ha hx => ?_⟩
            have : (decide (a < i) || (decide (a = i) && decide (x < k))) = decide (a < i + 1) := by
              rw [Bool.eq_iff_iff]; simp only [Bool.or_eq_true, Bool.and_eq_true, decide_eq_true_eq]; omega
            rw [this]
          case measure => simp [intOf]; omega
    · obtain rfl : i = n := by omega
      have hlt2 : ¬ ((i : Int) < (i : Int)) := by omega
      go_wp2_with fail
      go_ret
      exact ⟨b, o, c, gs, rfl, HBO.out, HTO.out.congr fun a x ha hx => by simp [ha]⟩
end Go.Proofs.Ytjeljlgjkjeloaa
/- heronlaw06.through. -/
namespace Go.Proofs.Ytjeljlgjkjeloaa
open Go.RowKit

/-- By one, then by the other. -/
def thrN (fa fb : Fn2) (m : Nat) : Fn2 := fun a x => (List.range m).any fun y => fa a y && fb y x
theorem thrN_succ (fa fb : Fn2) (m a x : Nat) : thrN fa fb (m + 1) a x = (thrN fa fb m a x || (fa a m && fb m x)) := by
  unfold thrN
  rw [List.range_succ, List.any_append]
  simp
theorem thrN_zero (fa fb : Fn2) (a x : Nat) : thrN fa fb 0 a x = false := rfl
def curT (fa fb : Fn2) (n i j k : Nat) : Fn2 := fun a x => (decide (a < i) && thrN fa fb n a x) || (decide (a = i) && (thrN fa fb j a x || (decide (x < k) && (fa i j && fb j x))))
set_option maxRecDepth 100000 in
set_option maxHeartbeats 4000000 in
theorem through_any {n ba oa ca bb ob cb Ba Bb : Nat} {ga gb : List Nat} {fa fb : Fn2} (w : World) (h1 : 1 ≤ n) (hn : n ≤ 1048576) (ha : Tab w Ba ba oa n ga fa) (hb : Tab w Bb bb ob n gb fb) :
    Calls Try.prog 36 #[.slice (some ⟨ba, oa, none⟩) n ca, .slice (some ⟨bb, ob, none⟩) n cb] w (TabRet n (thrN fa fb n) w) := by
  have HA := Lib.hid ha
  have HB := Lib.hid hb
  have HLI := Lib.hid (lines_any n w h1 hn)
  clear ha hb
  go_enter Try.func36, Try.ntmps36
  go_wp2_with fail
  refine HLI.out.mono ?_
  rintro e w1 ⟨b, o, c, gs, rfl, hb1, ht1⟩
  have HB1 := Lib.hid hb1
  have HT1 := Lib.hid ht1
  clear hb1 ht1
  simp only []
  go_wp2_with fail
  go_loopw [6] (fun iv wr => ∃ i : Nat, i ≤ n ∧ iv = .int .i64 (i : Int) ∧ Below w.heap.size w wr ∧ Tab wr w.heap.size b o n gs (curT fa fb n i 0 0)) (fun iv _ => n - (intOf iv).toNat)
  case atStart => exact ⟨0, Nat.zero_le _, rfl, HB1.out, HT1.out.congr fun i k _ _ => by simp [curT, thrN_zero]⟩
  case round =>
    obtain ⟨i, hi, rfl, hb, ht⟩ := hrel
    have HBO := Lib.hid hb
    have HTO := Lib.hid ht
    clear hb ht
    by_cases hlt : i < n
    · have hlt2 : (i : Int) < (n : Int) := by omega
      go_wp2_with fail
      go_loopw [7] (fun jv wr => ∃ j : Nat, j ≤ n ∧ jv = .int .i64 (j : Int) ∧ Below w.heap.size w wr ∧ Tab wr w.heap.size b o n gs (curT fa fb n i j 0)) (fun jv _ => n - (intOf jv).toNat)
      case atStart => exact ⟨0, Nat.zero_le _, rfl, HBO.out, HTO.out⟩
      case round =>
        obtain ⟨j, hj, rfl, hb, ht⟩ := hrel
        have HBJ := Lib.hid hb
        have HTJ := Lib.hid ht
        clear hb ht
        by_cases hlj : j < n
        · have hlj2 : (j : Int) < (n : Int) := by omega
          go_wp2_with fail
          go_loopw [8] (fun kv wr => ∃ k : Nat, k ≤ n ∧ kv = .int .i64 (k : Int) ∧ Below w.heap.size w wr ∧ Tab wr w.heap.size b o n gs (curT fa fb n i j k)) (fun kv _ => n - (intOf kv).toNat)
          case atStart => exact ⟨0, Nat.zero_le _, rfl, HBJ.out, HTJ.out⟩
          case round =>
            obtain ⟨k, hk, rfl, hb, ht⟩ := hrel
            have HBK := Lib.hid hb
            have HTK := Lib.hid ht
            clear hb ht
            by_cases hlk : k < n
            · have hlk2 : (k : Int) < (n : Int) := by omega
              obtain ⟨xa, -, hca, -, hxa, hcka, -⟩ := (HA.out.at_ hlt)
              have x1 : wr.cell? ⟨ba, oa + i, none⟩ = some (.slice (some ⟨xa, 0, none⟩) n n) := (HBK.out.cell (p := ⟨ba, oa + i, none⟩) HA.out.out.2.1).trans hca
              have x3 : wr.cell? ⟨xa, j, none⟩ = some (.bool (fa i j)) := (HBK.out.cell (p := ⟨xa, j, none⟩) hxa).trans (hcka j hlj)
              obtain ⟨va, hva⟩ : ∃ va, va = fa i j := ⟨_, rfl⟩
              rw [← hva] at x3
              have HVA := Lib.hid hva.symm
              clear hca hcka hva
              cases va with
              | false =>
                go_wp2_with fail
                go_roundw
                case rel =>
                  refine ⟨j + 1, by omega, by go_num, HBK.out, HTK.out.congr fun a x _ _ => ?_⟩
                  unfold curT
                  rw [thrN_succ, HVA.out]
                  by_cases e : a = i
                  · subst e; rw [HVA.out]; simp
                  · simp [e]
                case measure => simp [intOf]; omega
              | true =>
                obtain ⟨g, hg, hc, hg1, hg2, hck, hfz⟩ := HTK.out.at_ hlt
                obtain ⟨xb, -, hcb, -, hxb, hckb, -⟩ := (HB.out.at_ hlj)
                have x2 : wr.cell? ⟨bb, ob + j, none⟩ = some (.slice (some ⟨xb, 0, none⟩) n n) := (HBK.out.cell (p := ⟨bb, ob + j, none⟩) HB.out.out.2.1).trans hcb
                have x4 : wr.cell? ⟨xb, k, none⟩ = some (.bool (fb j k)) := (HBK.out.cell (p := ⟨xb, k, none⟩) hxb).trans (hckb k hlk)
                have x5 := hck k hlk
                have x6 := hfz k
                have HG := Lib.hid hg
                have hsz := HBK.out.size
                obtain ⟨vb, hvb⟩ : ∃ vb, vb = fb j k := ⟨_, rfl⟩
                obtain ⟨vc, hvc⟩ : ∃ vc, vc = curT fa fb n i j k i k := ⟨_, rfl⟩
                rw [← hvb] at x4
                rw [← hvc] at x5
                have HV := Lib.hid (show fb j k = vb ∧ curT fa fb n i j k i k = vc from ⟨hvb.symm, hvc.symm⟩)
                clear hck hfz hg hcb hckb hvb hvc
                have HREL := Lib.hid (show ∀ wq v, wq = (wr.setCell ⟨g, k, none⟩ (.bool v)).drew → v = (vc || vb) → Below w.heap.size w wq ∧ Tab wq w.heap.size b o n gs (curT fa fb n i j (k + 1)) from fun wq v hq hv => by
                  subst hq
                  refine ⟨bdrewN (Below.kept HBK.out (Kept.setCell _ _) (by simp; omega) HBK.out.size) 1, ((HTK.out.set_ HG.out v).congr fun a x ha hx => ?_ : Tab (wr.setCell ⟨g, k, none⟩ (.bool v)) w.heap.size b o n gs _).below (bdrewN (Below.refl _ _) 1)⟩
                  unfold upd
                  by_cases e : a = i ∧ x = k
                  · rw [if_pos e]; obtain ⟨rfl, rfl⟩ := e
                    rw [hv, ← HV.out.1, ← HV.out.2]
                    unfold curT
                    rw [HVA.out]
                    simp
                  · rw [if_neg e]
                    unfold curT
                    by_cases ea : a = i
                    · have hd : decide (x < k) = decide (x < k + 1) := by rw [decide_eq_decide]; omega
                      rw [hd]
                    · simp [ea])
                cases vc with
                | true =>
                  go_wp2_with fail
                  go_region
                  go_wp2_with fail
                  go_roundw
                  case rel => exact ⟨k + 1, by omega, by go_num, HREL.out _ true rfl (by simp)⟩
                  case measure => simp [intOf]; omega
                | false =>
                  go_wp2_with fail
                  go_region
                  go_wp2_with fail
                  go_roundw
                  case rel => exact ⟨k + 1, by omega, by go_num, HREL.out _ vb rfl (by simp)⟩
                  case measure => simp [intOf]; omega
            · obtain rfl : k = n := by omega
              have hlk2 : ¬ ((k : Int) < (k : Int)) := by omega
              go_wp2_with fail
              go_roundw
              case rel =>
                refine ⟨j + 1, by omega, by go_num, HBK.out, HTK.out.congr fun a x ha hx => ?_⟩
                unfold curT
                rw [thrN_succ]
                by_cases e : a = i
                · subst e; simp [hx]
                · simp [e]
              case measure => simp [intOf]; omega
        · obtain rfl : j = n := by omega
          have hlj2 : ¬ ((j : Int) < (j : Int)) := by omega
          go_wp2_with fail
          go_roundw
          case rel =>
            refine ⟨i + 1, by omega, by go_num, HBJ.out, HTJ.out.congr fun a x ha hx => ?_⟩
            unfold curT
            rw [thrN_zero]
            by_cases e : a = i
            · subst e; simp
            · have hd : decide (a < i) = decide (a < i + 1) := by rw [decide_eq_decide]; omega
              simp [e, hd]
          case measure => simp [intOf]; omega
    · obtain rfl : i = n := by omega
      have hlt2 : ¬ ((i : Int) < (i : Int)) := by omega
      go_wp2_with fail
      go_ret
      exact ⟨b, o, c, gs, rfl, HBO.out, HTO.out.congr fun a x ha hx => by
        unfold curT
        have e : a ≠ i := by omega
        simp [ha, e]⟩
end Go.Proofs.Ytjeljlgjkjeloaa
/- heronlaw06.often. -/
namespace Go.Proofs.Ytjeljlgjkjeloaa
open Go.RowKit

/-- By way of j, too. -/
def stepW (f : Fn2) (j : Nat) : Fn2 := fun a x => f a x || (f a j && f j x)
def warN (f : Fn2) : Nat → Fn2
  | 0 => f
  | j + 1 => stepW (warN f j) j
def curW (f : Fn2) (j i k : Nat) : Fn2 := fun a x => f a x || ((decide (a < i) || (decide (a = i) && decide (x < k))) && (f a j && f j x))
theorem curW_j (f : Fn2) (j i k a : Nat) : curW f j i k a j = f a j := by unfold curW; cases f a j <;> simp
theorem curW_row (f : Fn2) (j i k x : Nat) : curW f j i k j x = f j x := by unfold curW; cases f j x <;> simp
theorem curW_ik (f : Fn2) (j i k : Nat) : curW f j i k i k = f i k := by unfold curW; simp
set_option maxRecDepth 100000 in
set_option maxHeartbeats 4000000 in
theorem often_any {n ba oa ca Ba : Nat} {ga : List Nat} {fa : Fn2} (w : World) (h1 : 1 ≤ n) (hn : n ≤ 1048576) (ha : Tab w Ba ba oa n ga fa) :
    Calls Try.prog 57 #[.slice (some ⟨ba, oa, none⟩) n ca] w (TabRet n (warN (fun i k => fa i k || decide (i = k)) n) w) := by
  have HA := Lib.hid ha
  have HST := Lib.hid (stays_any n w h1 hn)
  clear ha
  obtain ⟨f0, hf0⟩ : ∃ f0 : Fn2, f0 = fun i k => fa i k || decide (i = k) := ⟨_, rfl⟩
  rw [← hf0]
  have HF0 := Lib.hid hf0
  clear hf0
  go_enter Try.func57, Try.ntmps57
  go_wp2_with fail
  refine HST.out.mono ?_
  rintro e w0 ⟨b0, o0, c0, g0, rfl, hb0, ht0⟩
  have HB0 := Lib.hid hb0
  have HOR := Lib.hid (or_any (ca := ca) (cb := c0) w0 h1 hn (HA.out.below hb0) ht0)
  clear hb0 ht0
  simp only []
  go_wp2_with fail
  refine HOR.out.mono ?_
  rintro e w1 ⟨b, o, c, gs, rfl, hb1, ht1⟩
  have HB1 := Lib.hid (HB0.out.trans (hb1.mono HB0.out.size))
  have HT1 := Lib.hid (show Tab w1 w.heap.size b o n gs f0 from (ht1.low HB0.out.size).congr fun i k _ _ => by rw [HF0.out])
  clear hb1 ht1
  simp only []
  go_wp2_with fail
  go_loopw [4] (fun jv wr => ∃ j : Nat, j ≤ n ∧ jv = .int .i64 (j : Int) ∧ Below w.heap.size w wr ∧ Tab wr w.heap.size b o n gs (warN f0 j)) (fun jv _ => n - (intOf jv).toNat)
  case atStart => exact ⟨0, Nat.zero_le _, rfl, HB1.out, HT1.out⟩
  case round =>
    obtain ⟨j, hj, rfl, hb, ht⟩ := hrel
    obtain ⟨F, hF⟩ : ∃ F, F = warN f0 j := ⟨_, rfl⟩
    rw [← hF] at ht
    have HF := Lib.hid hF
    have HBJ := Lib.hid hb
    have HTJ := Lib.hid ht
    clear hb ht hF
    by_cases hlj : j < n
    · have hlj2 : (j : Int) < (n : Int) := by omega
      go_wp2_with fail
      go_loopw [5] (fun iv wr => ∃ i : Nat, i ≤ n ∧ iv = .int .i64 (i : Int) ∧ Below w.heap.size w wr ∧ Tab wr w.heap.size b o n gs (curW F j i 0)) (fun iv _ => n - (intOf iv).toNat)
      case atStart => exact ⟨0, Nat.zero_le _, rfl, HBJ.out, HTJ.out.congr fun a x _ _ => by simp [curW]⟩
      case round =>
        obtain ⟨i, hi, rfl, hb, ht⟩ := hrel
        have HBI := Lib.hid hb
        have HTI := Lib.hid ht
        clear hb ht
        by_cases hlt : i < n
        · have hlt2 : (i : Int) < (n : Int) := by omega
          go_wp2_with fail
          go_loopw [6] (fun kv wr => ∃ k : Nat, k ≤ n ∧ kv = .int .i64 (k : Int) ∧ Below w.heap.size w wr ∧ Tab wr w.heap.size b o n gs (curW F j i k)) (fun kv _ => n - (intOf kv).toNat)
          case atStart => exact ⟨0, Nat.zero_le _, rfl, HBI.out, HTI.out⟩
          case round =>
            obtain ⟨k, hk, rfl, hb, ht⟩ := hrel
            have HBK := Lib.hid hb
            have HTK := Lib.hid ht
            clear hb ht
            by_cases hlk : k < n
            · have hlk2 : (k : Int) < (n : Int) := by omega
              obtain ⟨g, hg, hc, hg1, hg2, hck, hfz⟩ := HTK.out.at_ hlt
              obtain ⟨gj, hgj, hcj, hgj1, hgj2, hckj, -⟩ := HTK.out.at_ hlj
              have x3 := hck j hlj
              rw [curW_j] at x3
              have x5 := hck k hlk
              rw [curW_ik] at x5
              have x4 := hckj k hlk
              rw [curW_row] at x4
              have x6 := hfz k
              have HG := Lib.hid hg
              have hsz := HBK.out.size
              obtain ⟨va, hva⟩ : ∃ va, va = F i j := ⟨_, rfl⟩
              obtain ⟨vb, hvb⟩ : ∃ vb, vb = F j k := ⟨_, rfl⟩
              obtain ⟨vc, hvc⟩ : ∃ vc, vc = F i k := ⟨_, rfl⟩
              rw [← hva] at x3
              rw [← hvb] at x4
              rw [← hvc] at x5
              have HV := Lib.hid (show F i j = va ∧ F j k = vb ∧ F i k = vc from ⟨hva.symm, hvb.symm, hvc.symm⟩)
              clear hck hfz hg hgj hckj hva hvb hvc
              cases va with
              | false =>
                clear x4 x5 x6
                go_wp2_with fail
                go_roundw
                case rel =>
                  refine ⟨i + 1, by omega, by go_num, HBK.out, HTK.out.congr fun a x _ _ => ?_⟩
                  unfold curW
                  by_cases e : a = i
                  · subst e; rw [HV.out.1]; simp
                  · have hd : decide (a < i) = decide (a < i + 1) := by rw [decide_eq_decide]; omega
                    simp [e, hd]
                case measure => simp [intOf]; omega
              | true =>
                have HREL := Lib.hid (show ∀ wq v, wq = (wr.setCell ⟨g, k, none⟩ (.bool v)).drew → v = (vc || vb) → Below w.heap.size w wq ∧ Tab wq w.heap.size b o n gs (curW F j i (k + 1)) from fun wq v hq hv => by
                  subst hq
                  refine ⟨bdrewN (Below.kept HBK.out (Kept.setCell _ _) (by simp; omega) HBK.out.size) 1, ((HTK.out.set_ HG.out v).congr fun a x ha hx => ?_ : Tab (wr.setCell ⟨g, k, none⟩ (.bool v)) w.heap.size b o n gs _).below (bdrewN (Below.refl _ _) 1)⟩
                  unfold upd
                  by_cases e : a = i ∧ x = k
                  · rw [if_pos e]; obtain ⟨rfl, rfl⟩ := e
                    rw [hv]
                    unfold curW
                    rw [HV.out.1, HV.out.2.1, HV.out.2.2]
                    simp
                  · rw [if_neg e]
                    unfold curW
                    by_cases ea : a = i
                    · have hd : decide (x < k) = decide (x < k + 1) := by rw [decide_eq_decide]; omega
                      rw [hd]
                    · simp [ea])
                cases vc with
                | true =>
                  go_wp2_with fail
                  go_region
                  go_wp2_with fail
                  go_roundw
                  case rel => exact ⟨k + 1, by omega, by go_num, HREL.out _ true rfl (by simp)⟩
                  case measure => simp [intOf]; omega
                | false =>
                  go_wp2_with fail
                  go_region
                  go_wp2_with fail
                  go_roundw
                  case rel => exact ⟨k + 1, by omega, by go_num, HREL.out _ vb rfl (by simp)⟩
                  case measure => simp [intOf]; omega
            · obtain rfl : k = n := by omega
              have hlk2 : ¬ ((k : Int) < (k : Int)) := by omega
              go_wp2_with fail
              go_roundw
              case rel =>
                refine ⟨i + 1, by omega, by go_num, HBK.out, HTK.out.congr fun a x ha hx => ?_⟩
                unfold curW
                have hd : (decide (a < i) || (decide (a = i) && decide (x < k))) = decide (a < i + 1) := by
                  rw [Bool.eq_iff_iff]; simp only [Bool.or_eq_true, Bool.and_eq_true, decide_eq_true_eq]; omega
                rw [hd]; simp
              case measure => simp [intOf]; omega
        · obtain rfl : i = n := by omega
          have hlt2 : ¬ ((i : Int) < (i : Int)) := by omega
          go_wp2_with fail
          go_roundw
          case rel =>
            refine ⟨j + 1, by omega, by go_num, HBI.out, HTI.out.congr fun a x ha hx => ?_⟩
            rw [warN, ← HF.out]
            unfold curW stepW
            simp [ha]
          case measure => simp [intOf]; omega
    · obtain rfl : j = n := by omega
      have hlj2 : ¬ ((j : Int) < (j : Int)) := by omega
      go_wp2_with fail
      go_ret
      exact ⟨b, o, c, gs, rfl, HBJ.out, by rw [← HF.out]; exact HTJ.out⟩
end Go.Proofs.Ytjeljlgjkjeloaa
/- Tables and what trees lead to. No program here. -/
namespace Go.Proofs.Ytjeljlgjkjeloaa
open Go.Proofs.Ytjeljlgjkjeloaa.Tr Go.Proofs.Ytjeljlgjkjeloaa.Mach

/-- A table says what a relation says, of n places. -/
def Rep (n : Nat) (f : Fn2) (R : Nat → Nat → Prop) : Prop := ∀ i j, i < n → j < n → (f i j = true ↔ R i j)
def Bdd (n : Nat) (R : Nat → Nat → Prop) : Prop := ∀ i j, i < n → R i j → j < n
section
variable {n : Nat} {f g : Fn2} {R Q : Nat → Nat → Prop}
theorem Rep.iff (h : Rep n f R) (e : ∀ i j, R i j ↔ Q i j) : Rep n f Q := fun i j hi hj => (h i j hi hj).trans (e i j)
theorem rep_id : Rep n (fun i j => decide (i = j)) (fun i j => i = j) := fun i j _ _ => by simp
theorem rep_none : Rep n (fun _ _ => false) (fun _ _ => False) := fun i j _ _ => by simp
theorem rep_or (h : Rep n f R) (k : Rep n g Q) : Rep n (fun i j => f i j || g i j) (fun i j => R i j ∨ Q i j) := fun i j hi hj => by
  rw [Bool.or_eq_true, h i j hi hj, k i j hi hj]
theorem rep_thr (h : Rep n f R) (k : Rep n g Q) (hb : Bdd n R) : Rep n (thrN f g n) (fun i j => ∃ m, R i m ∧ Q m j) := fun i j hi hj => by
  unfold thrN
  rw [List.any_eq_true]
  constructor
  · rintro ⟨m, hm, hx⟩
    rw [List.mem_range] at hm
    rw [Bool.and_eq_true] at hx
    exact ⟨m, (h i m hi hm).1 hx.1, (k m j hm hj).1 hx.2⟩
  · rintro ⟨m, h1, h2⟩
    have hm := hb i m hi h1
    exact ⟨m, List.mem_range.2 hm, by rw [Bool.and_eq_true]; exact ⟨(h i m hi hm).2 h1, (k m j hm hj).2 h2⟩⟩
theorem bdd_it (hb : Bdd n R) : ∀ q, Bdd n (It R q)
  | 0, i, j, hi, h => by cases (show i = j from h); exact hi
  | q + 1, i, j, hi, ⟨k, h1, h2⟩ => bdd_it hb q k j (hb i k hi h1) h2
/-! ### so often as one likes -/
theorem war_le (f : Fn2) : ∀ (q a x : Nat), f a x = true → warN f q a x = true
  | 0, _, _, h => h
  | q + 1, a, x, h => by rw [warN]; unfold stepW; rw [war_le f q a x h]; rfl
theorem war_sound {Q : Nat → Nat → Prop} (hQ : ∀ i k j, Q i k → Q k j → Q i j) (h : ∀ a x, a < n → x < n → f a x = true → Q a x) : ∀ q, q ≤ n → ∀ a x, a < n → x < n → warN f q a x = true → Q a x
  | 0, _, a, x, ha, hx, e => h a x ha hx e
  | q + 1, hq, a, x, ha, hx, e => by
    rw [warN] at e
    unfold stepW at e
    rw [Bool.or_eq_true, Bool.and_eq_true] at e
    rcases e with e | ⟨e1, e2⟩
    · exact war_sound hQ h q (by omega) a x ha hx e
    · exact hQ _ _ _ (war_sound hQ h q (by omega) a q ha (by omega) e1) (war_sound hQ h q (by omega) q x (by omega) hx e2)
/-- What goes by way of j is there behind j's turn. -/
theorem war_turn (f : Fn2) (j : Nat) : ∀ (d a x : Nat), warN f (j + 1 + d) a j = true → warN f (j + 1 + d) j x = true → warN f (j + 1 + d) a x = true
  | 0, a, x, h1, h2 => by
    rw [Nat.add_zero, warN] at h1 h2 ⊢
    unfold stepW at h1 h2 ⊢
    rw [Bool.or_eq_true, Bool.and_eq_true] at h1 h2 ⊢
    have g1 : warN f j a j = true := h1.elim id (·.1)
    have g2 : warN f j j x = true := h2.elim id (·.2)
    exact .inr ⟨g1, g2⟩
  | d + 1, a, x, h1, h2 => by
    have ih := war_turn f j d
    rw [show j + 1 + (d + 1) = (j + 1 + d) + 1 from by omega, warN] at h1 h2 ⊢
    generalize warN f (j + 1 + d) = F at *
    generalize j + 1 + d = p at *
    unfold stepW at h1 h2 ⊢
    rw [Bool.or_eq_true, Bool.and_eq_true] at h1 h2 ⊢
    rcases h1 with h1 | ⟨h1, h1'⟩ <;> rcases h2 with h2 | ⟨h2, h2'⟩
    · exact .inl (ih a x h1 h2)
    · exact .inr ⟨ih a p h1 h2, h2'⟩
    · exact .inr ⟨h1, ih p x h1' h2⟩
    · exact .inr ⟨h1, h2'⟩
theorem rep_war (h : Rep n f R) (hb : Bdd n R) : Rep n (warN (fun i k => f i k || decide (i = k)) n) (fun i j => ∃ q, It R q i j) := by
  intro i j hi hj
  constructor
  · refine war_sound (Q := fun i j => ∃ q, It R q i j) (fun a k b ⟨q, h1⟩ ⟨p, h2⟩ => ⟨q + p, It.add.2 ⟨k, h1, h2⟩⟩) (fun a x ha hx e => ?_) n (Nat.le_refl _) i j hi hj
    rw [Bool.or_eq_true, decide_eq_true_eq] at e
    rcases e with e | e
    · exact ⟨1, x, (h a x ha hx).1 e, rfl⟩
    · exact ⟨0, e⟩
  · rintro ⟨q, hq⟩
    induction q generalizing i with
    | zero =>
      have e : i = j := hq
      rw [← e]
      exact war_le _ n i i (by simp)
    | succ q ih =>
      obtain ⟨k, h1, h2⟩ := hq
      have hk := hb i k hi h1
      have e1 : warN (fun i k => f i k || decide (i = k)) n i k = true := war_le _ n i k (by rw [(h i k hi hk).2 h1]; rfl)
      have e2 := ih k hk h2
      have := war_turn (fun i k => f i k || decide (i = k)) k (n - (k + 1)) i j
      rw [show k + 1 + (n - (k + 1)) = n from by omega] at this
      exact this e1 e2
/-! ### counted -/
def powN (n : Nat) (f : Fn2) : Nat → Fn2
  | 0 => fun i j => decide (i = j)
  | q + 1 => thrN (powN n f q) f n
def allN (n : Nat) (f : Fn2) (m : Nat) : Nat → Fn2
  | 0 => powN n f m
  | d + 1 => fun a x => allN n f m d a x || powN n f (m + d + 1) a x
theorem it_snoc {q i j : Nat} : It R (q + 1) i j ↔ ∃ m, It R q i m ∧ R m j := by
  rw [It.add]
  exact ⟨fun ⟨k, h1, m, h2, h3⟩ => by cases (show m = j from h3); exact ⟨k, h1, h2⟩, fun ⟨k, h1, h2⟩ => ⟨k, h1, j, h2, rfl⟩⟩
theorem rep_pow (h : Rep n f R) (hb : Bdd n R) : ∀ q, Rep n (powN n f q) (It R q)
  | 0 => rep_id
  | q + 1 => (rep_thr (rep_pow h hb q) h (bdd_it hb q)).iff fun i j => it_snoc.symm
theorem rep_all (h : Rep n f R) (hb : Bdd n R) (m : Nat) : ∀ d, Rep n (allN n f m d) (fun i j => ∃ q, m ≤ q ∧ q ≤ m + d ∧ It R q i j)
  | 0 => by
    refine (rep_pow h hb m).iff fun i j => ⟨fun h => ⟨m, by omega, by omega, h⟩, ?_⟩
    rintro ⟨q, h1, h2, h3⟩
    obtain rfl : q = m := by omega
    exact h3
  | d + 1 => (rep_or (rep_all h hb m d) (rep_pow h hb (m + d + 1))).iff fun i j => ⟨fun h => h.elim (fun ⟨q, h1, h2, h3⟩ => ⟨q, h1, by omega, h3⟩) fun h => ⟨m + d + 1, by omega, by omega, h⟩, fun ⟨q, h1, h2, h3⟩ => by
      by_cases e : q ≤ m + d
      · exact .inl ⟨q, h1, e, h3⟩
      · obtain rfl : q = m + d + 1 := by omega
        exact .inr h3⟩
/-- The table of a repeat. -/
def timesN (n : Nat) (f : Fn2) (m0 : Nat) (mx : Int) : Fn2 := if mx < 0 then thrN (powN n f m0) (warN (fun i k => f i k || decide (i = k)) n) n else allN n f m0 (mx - m0).toNat
theorem rep_times (h : Rep n f R) (hb : Bdd n R) {m0 : Nat} {mx : Int} (hm : mx = -1 ∨ (m0 : Int) ≤ mx) : Rep n (timesN n f m0 mx) (reps R (m0 : Int) mx) := by
  unfold timesN reps
  by_cases e : mx < 0
  · have e1 : mx = -1 := by omega
    rw [if_pos e]
    refine (rep_thr (rep_pow h hb m0) (rep_war h hb) (bdd_it hb m0)).iff fun i j => ?_
    rw [if_pos e1, Int.toNat_natCast]
    constructor
    · rintro ⟨k, h1, q, h2⟩; exact ⟨m0 + q, by omega, It.add.2 ⟨k, h1, h2⟩⟩
    · rintro ⟨q, hq, h1⟩
      obtain ⟨p, rfl⟩ : ∃ p, q = m0 + p := ⟨q - m0, by omega⟩
      obtain ⟨k, h2, h3⟩ := It.add.1 h1
      exact ⟨k, h2, p, h3⟩
  · rw [if_neg e]
    refine (rep_all h hb m0 _).iff fun i j => ?_
    rw [if_neg (by omega), Int.toNat_natCast]
    exact ⟨fun ⟨q, h1, h2, h3⟩ => ⟨q, h1, by omega, h3⟩, fun ⟨q, h1, h2, h3⟩ => ⟨q, h1, by omega, h3⟩⟩
end
/-! ### a tree leads to no place beyond the text -/
section
variable {t : List Int}
theorem bdd_reps {n : Nat} {R : Nat → Nat → Prop} (h : Bdd n R) {m x : Int} : Bdd n (reps R m x) := fun i j hi hr => by
  unfold reps at hr
  split at hr
  · obtain ⟨q, -, hq⟩ := hr; exact bdd_it h q i j hi hq
  · obtain ⟨q, -, -, hq⟩ := hr; exact bdd_it h q i j hi hq
theorem bdd_lt : ∀ s : Tr.Tr, Bdd (t.length + 1) (LT t s) := by
  intro s
  induction s using Tr.ind with
  | h s ih =>
    cases s with
    | mk k r a l n m z ix nm =>
      have hl : ∀ l : List Tr.Tr, (∀ s ∈ l, Bdd (t.length + 1) (LT t s)) → Bdd (t.length + 1) (LTc t l) ∧ Bdd (t.length + 1) (LTa t l) ∧ Bdd (t.length + 1) (LTh t l) := by
        intro l
        induction l with
        | nil => intro _; exact ⟨fun i j hi h => by rw [LTc] at h; omega, fun i j hi h => by rw [LTa] at h; exact h.elim, fun i j hi h => by rw [LTh] at h; exact h.elim⟩
        | cons s l ihl =>
          intro h
          have hs := h s List.mem_cons_self
          obtain ⟨h1, h2, -⟩ := ihl fun x hx => h x (List.mem_cons_of_mem _ hx)
          refine ⟨fun i j hi hx => ?_, fun i j hi hx => ?_, fun i j hi hx => ?_⟩
          · rw [LTc] at hx; obtain ⟨m, g1, g2⟩ := hx; exact h1 m j (hs i m hi g1) g2
          · rw [LTa] at hx; exact hx.elim (hs i j hi) (h2 i j hi)
          · rw [LTh] at hx; exact hs i j hi hx
      obtain ⟨h1, h2, h3⟩ := hl l ih
      intro i j hi h
      rw [LT] at h
      repeat' split at h
      · omega
      · omega
      · omega
      · exact h1 i j hi h
      · exact h2 i j hi h
      · exact h3 i j hi h
      · exact bdd_reps h3 i j hi h
      · exact h.elim
theorem ltc_snoc : ∀ {a : List Tr.Tr} {s : Tr.Tr} {i j : Nat}, LTc t (a ++ [s]) i j ↔ ∃ k, LTc t a i k ∧ LT t s k j
  | [], s, i, j => by
    simp only [List.nil_append, LTc]
    constructor
    · rintro ⟨m, h1, h2⟩; subst h2; exact ⟨i, rfl, h1⟩
    · rintro ⟨k, h1, h2⟩; subst h1; exact ⟨j, h2, rfl⟩
  | x :: a, s, i, j => by
    rw [List.cons_append, LTc, LTc]
    constructor
    · rintro ⟨m, h1, h2⟩
      obtain ⟨k, h3, h4⟩ := ltc_snoc.1 h2
      exact ⟨k, ⟨m, h1, h3⟩, h4⟩
    · rintro ⟨k, ⟨m, h1, h3⟩, h4⟩
      exact ⟨m, h1, ltc_snoc.2 ⟨k, h3, h4⟩⟩
theorem bdd_ltc {l : List Tr.Tr} : Bdd (t.length + 1) (LTc t l) := by
  induction l with
  | nil => exact fun i j hi h => by rw [LTc] at h; omega
  | cons s l ih => exact fun i j hi h => by rw [LTc] at h; obtain ⟨m, h1, h2⟩ := h; exact ih m j (bdd_lt s i m hi h1) h2
end
end Go.Proofs.Ytjeljlgjkjeloaa
