/- runes.Fold -/
import Derived.Test.YtgljhhlnnedmaaaDoorUnion
namespace Go.Proofs.YtgljhhlnnedmaaaDoor
open Go.RowKit

/-- The other case of what of a range are letters: the small ones, the capital ones. -/
def ext1 (x : Int × Int) : List (Int × Int) := if max x.1 97 ≤ min x.2 122 then [(max x.1 97 - 32, min x.2 122 - 32)] else []
def ext2 (x : Int × Int) : List (Int × Int) := if max x.1 65 ≤ min x.2 90 then [(max x.1 65 + 32, min x.2 90 + 32)] else []
def exts (x : Int × Int) (j : Nat) : List (Int × Int) := if j = 0 then [] else if j = 1 then ext1 x else ext1 x ++ ext2 x
def foldR (l : List (Int × Int)) : List (Int × Int) := l ++ l.flatMap fun x => ext1 x ++ ext2 x
theorem ext_len (x : Int × Int) (j : Nat) : (exts x j).length ≤ 2 := by
  have h1 : (ext1 x).length ≤ 1 := by unfold ext1; split <;> simp
  have h2 : (ext2 x).length ≤ 1 := by unfold ext2; split <;> simp
  unfold exts
  split
  · simp
  split
  · omega
  · simp only [List.length_append]; omega
theorem extsum_len (l : List (Int × Int)) : (l.flatMap fun x => ext1 x ++ ext2 x).length ≤ 2 * l.length := by
  induction l with
  | nil => simp
  | cons x l ih =>
    have := ext_len x 2
    unfold exts at this
    simp only [List.flatMap_cons, List.length_append, List.length_cons] at *
    simp at this
    omega
theorem fold_ok {l : List (Int × Int)} (h : ∀ x ∈ l, okx x = true) : ∀ x ∈ foldR l, okx x = true := by
  intro y hy
  rcases List.mem_append.1 hy with hy | hy
  · exact h y hy
  · obtain ⟨x, hx, hy⟩ := List.mem_flatMap.1 hy
    rw [okx_iff]
    rcases List.mem_append.1 hy with hy | hy
    · unfold ext1 at hy
      split at hy
      · simp only [List.mem_singleton] at hy; subst hy; simp only []; omega
      · simp at hy
    · unfold ext2 at hy
      split at hy
      · simp only [List.mem_singleton] at hy; subst hy; simp only []; omega
      · simp at hy
/-- A letter's other case. -/
def otherR (r : Int) : Int := if 97 ≤ r ∧ r ≤ 122 then r - 32 else if 65 ≤ r ∧ r ≤ 90 then r + 32 else r
theorem fold_mem (l : List (Int × Int)) (r : Int) : memB (foldR l) r = true ↔ memB l r = true ∨ memB l (otherR r) = true := by
  unfold foldR
  rw [mem_append]
  constructor
  · rintro (h | h)
    · exact .inl h
    · obtain ⟨y, hy, g1, g2⟩ := memB_iff.1 h
      obtain ⟨x, hx, hy⟩ := List.mem_flatMap.1 hy
      refine .inr (memB_iff.2 ⟨x, hx, ?_⟩)
      unfold otherR
      rcases List.mem_append.1 hy with hy | hy
      · unfold ext1 at hy
        split at hy
        · simp only [List.mem_singleton] at hy; subst hy; simp only [] at g1 g2
          rw [if_neg (by omega), if_pos (by omega)]; omega
        · simp at hy
      · unfold ext2 at hy
        split at hy
        · simp only [List.mem_singleton] at hy; subst hy; simp only [] at g1 g2
          rw [if_pos (by omega)]; omega
        · simp at hy
  · rintro (h | h)
    · exact .inl h
    · obtain ⟨x, hx, g1, g2⟩ := memB_iff.1 h
      unfold otherR at g1 g2
      by_cases c1 : 97 ≤ r ∧ r ≤ 122
      · rw [if_pos c1] at g1 g2
        refine .inr (memB_iff.2 ⟨(max x.1 65 + 32, min x.2 90 + 32), List.mem_flatMap.2 ⟨x, hx, List.mem_append.2 (.inr ?_)⟩, by simp only []; omega, by simp only []; omega⟩)
        unfold ext2
        rw [if_pos (by omega)]; simp
      · rw [if_neg c1] at g1 g2
        by_cases c2 : 65 ≤ r ∧ r ≤ 90
        · rw [if_pos c2] at g1 g2
          refine .inr (memB_iff.2 ⟨(max x.1 97 - 32, min x.2 122 - 32), List.mem_flatMap.2 ⟨x, hx, List.mem_append.2 (.inl ?_)⟩, by simp only []; omega, by simp only []; omega⟩)
          unfold ext1
          rw [if_pos (by omega)]; simp
        · rw [if_neg c2] at g1 g2
          exact .inl (memB_iff.2 ⟨x, hx, g1, g2⟩)
theorem other_other (r : Int) : otherR (otherR r) = r := by unfold otherR; split <;> split <;> omega
theorem other_dom {r : Int} : dom (otherR r) = dom r := by
  rw [Bool.eq_iff_iff, dom_iff, dom_iff]; unfold otherR; split
  · omega
  · split <;> omega
/-- A class has few letters' ranges. -/
theorem fold_len {l : List (Int × Int)} (h : Cls l) : (foldR l).length ≤ l.length + 54 := by
  have sub : ∀ p : Int × Int → Bool, Cls (l.filter p) := fun p => ⟨fun x hx => h.1 x (List.mem_filter.1 hx).1, h.2.sublist List.filter_sublist⟩
  have h1 := meet_len (l := l.filter fun x => decide (x.1 ≤ 122 ∧ 97 ≤ x.2)) (lo := 97) (hi := 122) (sub _) fun x hx => by simpa using (List.mem_filter.1 hx).2
  have h2 := meet_len (l := l.filter fun x => decide (x.1 ≤ 90 ∧ 65 ≤ x.2)) (lo := 65) (hi := 90) (sub _) fun x hx => by simpa using (List.mem_filter.1 hx).2
  have e : ∀ m : List (Int × Int), (∀ x ∈ m, okx x = true) → (m.flatMap fun x => ext1 x ++ ext2 x).length = (m.filter fun x => decide (x.1 ≤ 122 ∧ 97 ≤ x.2)).length + (m.filter fun x => decide (x.1 ≤ 90 ∧ 65 ≤ x.2)).length := by
    intro m
    induction m with
    | nil => intro _; rfl
    | cons x m ih =>
      intro hm
      have hx := okx_iff.1 (hm x (by simp))
      have ih := ih fun y hy => hm y (by simp [hy])
      rw [List.flatMap_cons, List.length_append, ih, List.filter_cons, List.filter_cons, List.length_append]
      have a1 : (ext1 x).length = if x.1 ≤ 122 ∧ 97 ≤ x.2 then 1 else 0 := by
        unfold ext1
        by_cases c : x.1 ≤ 122 ∧ 97 ≤ x.2
        · rw [if_pos (by omega), if_pos c]; rfl
        · rw [if_neg (by omega), if_neg c]; rfl
      have a2 : (ext2 x).length = if x.1 ≤ 90 ∧ 65 ≤ x.2 then 1 else 0 := by
        unfold ext2
        by_cases c : x.1 ≤ 90 ∧ 65 ≤ x.2
        · rw [if_pos (by omega), if_pos c]; rfl
        · rw [if_neg (by omega), if_neg c]; rfl
      rw [a1, a2]
      by_cases c1 : x.1 ≤ 122 ∧ 97 ≤ x.2 <;> by_cases c2 : x.1 ≤ 90 ∧ 65 ≤ x.2 <;> simp [c1, c2] <;> omega
  unfold foldR
  rw [List.length_append, e l h.1]
  omega
theorem idx0 (w : World) : (Instr.index 65 (.agg #[.int .i32 97, .int .i32 65]) (.int .i64 0)).run Tryd.prog w = .ok (.int .i32 97) w := by kernel_rfl
theorem idx1 (w : World) : (Instr.index 65 (.agg #[.int .i32 97, .int .i32 65]) (.int .i64 1)).run Tryd.prog w = .ok (.int .i32 65) w := by kernel_rfl
/-- Where class answers, it answers two values. -/
theorem class_two {l : List (Int × Int)} {B : Nat} {w w' : World} {e : Ending} (h : ClassPost l B w e w') : ∃ v k, e = .returned (.tuple #[v, .int .i64 k]) ∧ ClassPost l B w (.returned (.tuple #[v, .int .i64 k])) w' := by
  obtain ⟨S, hp, hs, hb, hif⟩ := h
  split at hif
  · subst hif; exact ⟨_, _, rfl, S, hp, hs, hb, by rw [if_pos ‹_›]⟩
  · obtain ⟨v, rfl, ho⟩ := hif
    exact ⟨_, _, rfl, S, hp, hs, hb, by rw [if_neg ‹_›]; exact ⟨v, rfl, ho⟩⟩

set_option maxRecDepth 100000 in
set_option maxHeartbeats 2000000 in
theorem fold_any (A : Option Addr) (n c : Nat) (l : List (Int × Int)) (w : World) (hA : A = none → c = 0) (hr : Reads w w.heap.size 2 A n c (flat l)) :
    Calls Tryd.prog 28 #[.slice A n c] w (ClsPost (rightB l) (foldR l) w.heap.size w) := by
  obtain ⟨i0, hi, hz0, hz1, hz2⟩ := info_parts info_rng
  obtain ⟨B, hB⟩ : ∃ B, B = w.heap.size := ⟨_, rfl⟩
  rw [← hB] at hr
  have HR1 := Lib.hid (right_any A n c l w (by rw [← hB]; exact hr))
  rw [← hB]
  have hBs : B ≤ w.heap.size := by omega
  have hlen : l.length = n := by have := hr.len; rw [flat_length] at this; omega
  have HLEN := Lib.hid hlen
  have HR := Lib.hid hr
  have HA := Lib.hid hA
  have hnc := hr.le
  have hcap := hr.cap
  clear hB hlen hr hA
  go_enter Tryd.func28, Tryd.ntmps28
  go_wp2_with fail
  refine HR1.out.mono ?_
  rintro e w1 ⟨rfl, hb1⟩
  have hb1 : Below B w w1 := hb1.mono hBs
  have hs1 : B ≤ w1.heap.size := Nat.le_trans hBs hb1.size
  clear HR1
  cases hd1 : rightB l with
  | false =>
    simp only []
    go_wp2_with fail
    go_ret2
    unfold ClsPost
    rw [hd1]
    exact ⟨rfl, hb1⟩
  | true =>
    have hn1 : n ≤ 5000 := by have := (of_right hd1).2; have := HLEN.out; omega
    have HC := Lib.hid (of_right hd1).1
    have H1 := Lib.hid hd1
    clear hd1
    simp only []
    have HCL := Lib.hid (clone_any A n c l w1 HA.out ((HR.out.below hb1).more hs1) (by omega))
    go_wp2_with fail
    refine HCL.out.mono ?_
    rintro e w2 ⟨v, rfl, ho, hb2⟩
    have hb2 : Below B w w2 := hb1.trans (hb2.mono hs1)
    have ho := own_lower ho hs1
    clear HCL hb1 hs1
    go_wp2_with fail
    go_loopw [4, 20] (fun v p wr => ∃ i : Nat, i ≤ n ∧ p = .int .i64 i ∧ wr.ownsRow B 55 2 v (l ++ (l.take i).flatMap fun x => ext1 x ++ ext2 x).length (flat (l ++ (l.take i).flatMap fun x => ext1 x ++ ext2 x)) ∧ Below B w wr) (fun _ p _ => n - (intOf p).toNat)
    case atStart => exact ⟨0, Nat.zero_le _, rfl, by simpa using ho, hb2⟩
    case round =>
      obtain ⟨i, hi1, rfl, hov, hbel⟩ := hrel
      have hszr : B ≤ wr.heap.size := Nat.le_trans hBs hbel.size
      have hpl := extsum_len (l.take i)
      rw [List.length_take] at hpl
      obtain ⟨pre, hpre⟩ : ∃ pre, pre = l ++ (l.take i).flatMap fun x => ext1 x ++ ext2 x := ⟨_, rfl⟩
      have hpl2 : pre.length ≤ 15000 := by rw [hpre, List.length_append]; have := HLEN.out; omega
      rw [← hpre] at hov
      have HPRE := Lib.hid hpre
      clear hpre hpl
      by_cases hlt : i < n
      · obtain ⟨x, hx⟩ : ∃ x, l[i]? = some x := ⟨_, List.getElem?_eq_getElem (by have := HLEN.out; omega)⟩
        obtain ⟨b, off, rfl, hb, hcell⟩ := (HR.out.below hbel).at_ (by omega)
        have hc1 : wr.cell? ⟨b, off + i * 2, none⟩ = some (.int .i64 x.1) := hcell _ _ (flat_get l i x hx).1
        have hc2 : wr.cell? ⟨b, off + i * 2 + 1, none⟩ = some (.int .i64 x.2) := by rw [Nat.add_assoc]; exact hcell _ _ (flat_get l i x hx).2
        have hxo := okx_iff.1 (HC.out.1 x (List.mem_of_getElem? hx))
        have HX := Lib.hid hx
        obtain ⟨x1, x2⟩ := x
        have hx1 : 0 ≤ x1 := hxo.1
        have hx2 : x1 ≤ x2 := hxo.2.1
        have hx3 : x2 ≤ 1114111 := hxo.2.2.1
        clear hcell hx hxo
        go_wp2_with fail
        have hov1 := hov.alloc (.cells #[.int .i64 x1, .int .i64 x2] 55)
        have hbe1 := hbel.alloc hszr (.cells #[.int .i64 x1, .int .i64 x2] 55)
        have hbx0 : (wr.alloc (.cells #[.int .i64 x1, .int .i64 x2] 55)).cell? ⟨wr.heap.size, 0, none⟩ = some (.int .i64 x1) := by go_simp
        have hbx1 : (wr.alloc (.cells #[.int .i64 x1, .int .i64 x2] 55)).cell? ⟨wr.heap.size, 1, none⟩ = some (.int .i64 x2) := by go_simp
        have hGv : some wr.heap.size ≠ u4.ownBlock := fun h => by have := (hov.lt _ h.symm).2; omega
        have hszX : wr.heap.size < (wr.alloc (.cells #[.int .i64 x1, .int .i64 x2] 55)).heap.size := by simp
        clear hov hbel hc1 hc2
        have ix0 := idx0
        have ix1 := idx1
        generalize wr.alloc (.cells #[.int .i64 x1, .int .i64 x2] 55) = wr1 at *
        generalize wr.heap.size = X at *
        go_loopw [4, 25] (fun v p wq => ∃ j : Nat, j ≤ 2 ∧ p = .int .i64 j ∧ wq.ownsRow B 55 2 v (pre ++ exts (x1, x2) j).length (flat (pre ++ exts (x1, x2) j)) ∧ Below B w wq ∧ wq.cell? ⟨X, 0, none⟩ = some (.int .i64 x1) ∧ wq.cell? ⟨X, 1, none⟩ = some (.int .i64 x2) ∧ some X ≠ v.ownBlock ∧ X < wq.heap.size) (fun _ p _ => 2 - (intOf p).toNat)
        case atStart => exact ⟨0, by omega, rfl, by simpa [exts] using hov1, hbe1, hbx0, hbx1, hGv, hszX⟩
        case round =>
          obtain ⟨j, hj, rfl, hov, hbq, hq0, hq1, hGq, hXq⟩ := hrel
          have hszq : B ≤ wr.heap.size := Nat.le_trans hBs hbq.size
          have hql := ext_len (x1, x2) j
          obtain ⟨q, hq⟩ : ∃ q, q = pre ++ exts (x1, x2) j := ⟨_, rfl⟩
          rw [← hq] at hov
          have hqn : q.length ≤ 15002 := by rw [hq, List.length_append]; omega
          have HQ := Lib.hid hq
          have HGQ := Lib.hid hGq
          clear hq hql hbx0 hbx1 hGv hGq
          rcases (show j = 0 ∨ j = 1 ∨ j = 2 from by omega) with rfl | rfl | rfl
          · clear ix1
            have hov := own_drewN hov
            by_cases hp : max x1 97 ≤ min x2 122
            · have hpart : ext1 (x1, x2) = [(max x1 97 - 32, min x2 122 - 32)] := by unfold ext1; rw [if_pos hp]
              have HP := Lib.hid hpart
              clear hpart
              go_wp2_with fail
              go_quiet (fail)
              have hov := hov nq
              have hbq := bdrewN hbq nq
              have hq0 : (wr.drewN nq).cell? ⟨X, 0, none⟩ = some (.int .i64 x1) := hq0
              have hq1 : (wr.drewN nq).cell? ⟨X, 1, none⟩ = some (.int .i64 x2) := hq1
              have hszq : B ≤ (wr.drewN nq).heap.size := hszq
              have hXq : X < (wr.drewN nq).heap.size := hXq
              generalize wr.drewN nq = W1 at *
              go_wp2_with (at_builtin; refine wpList_append_keep _ rfl (.tmp 45) (.tmp 53) 42 rfl B 55 i0 _ 2 16 Tryd.underlying42 hi hz0 hz1 hz2 rfl (by decide) _ q.length (flat q) rfl (hov.alloc _) ⟨W1.heap.size, 0, none⟩ 1 1 [.int .i64 (max x1 97 - 32), .int .i64 (min x2 122 - 32)] rfl rfl (cell_two_new _ _ _ _) (by simp [Value.oneCell']) (by unfold maxLen; omega) (by omega) (by simp; omega) ?_; intro v2 w2 ha2)
              have hg2 := (World.grownBy_alloc W1 (.cells #[.int .i64 (max x1 97 - 32), .int .i64 (min x2 122 - 32)] 55) u4.ownBlock).trans ha2.grown
              have hb3 := (hbq.alloc hszq (.cells #[.int .i64 (max x1 97 - 32), .int .i64 (min x2 122 - 32)] 55)).grown ha2.grown (by simp; omega) (fun k hk => (hov.lt k hk).1)
              have hq0' : w2.cell? ⟨X, 0, none⟩ = some (.int .i64 x1) := (hg2.cell_far ⟨X, 0, none⟩ hXq HGQ.out).trans hq0
              have hq1' : w2.cell? ⟨X, 1, none⟩ = some (.int .i64 x2) := (hg2.cell_far ⟨X, 1, none⟩ hXq HGQ.out).trans hq1
              have hG2 : some X ≠ v2.ownBlock := by
                rcases ha2.at_ with e | e
                · rw [e]; exact HGQ.out
                · rw [e]; simp; omega
              have hX2 : X < w2.heap.size := Nat.lt_of_lt_of_le hXq hg2.size
              have HB3 := Lib.hid hb3
              have HQ0 := Lib.hid hq0'
              have HQ1 := Lib.hid hq1'
              clear hb3 hq0' hq1' hq0 hq1 hbq
              go_roundw
              case rel =>
                refine ⟨1, by omega, by go_num, ?_, HB3.out, HQ0.out, HQ1.out, hG2, hX2⟩
                have := ha2.own
                have e : exts (x1, x2) 1 = exts (x1, x2) 0 ++ [(max x1 97 - 32, min x2 122 - 32)] := by simp [exts, HP.out]
                rw [e, ← List.append_assoc, ← HQ.out]
                simpa [flat_append, flat, encR] using this
              case measure => simp [intOf]
            · have hpart : ext1 (x1, x2) = [] := by unfold ext1; rw [if_neg hp]
              have HP := Lib.hid hpart
              clear hpart
              go_wp2_with fail
              go_quiet (fail)
              go_wp2_with fail
              go_roundw
              case rel =>
                refine ⟨1, by omega, by go_num, ?_, bdrewN hbq nq, hq0, hq1, HGQ.out, hXq⟩
                have e : exts (x1, x2) 1 = exts (x1, x2) 0 := by simp [exts, HP.out]
                rw [e, ← HQ.out]
                exact hov nq
              case measure => simp [intOf]
          · clear ix0
            have hov := own_drewN hov
            by_cases hp : max x1 65 ≤ min x2 90
            · have hpart : ext2 (x1, x2) = [(max x1 65 + 32, min x2 90 + 32)] := by unfold ext2; rw [if_pos hp]
              have HP := Lib.hid hpart
              clear hpart
              go_wp2_with fail
              go_quiet (fail)
              have hov := hov nq
              have hbq := bdrewN hbq nq
              have hq0 : (wr.drewN nq).cell? ⟨X, 0, none⟩ = some (.int .i64 x1) := hq0
              have hq1 : (wr.drewN nq).cell? ⟨X, 1, none⟩ = some (.int .i64 x2) := hq1
              have hszq : B ≤ (wr.drewN nq).heap.size := hszq
              have hXq : X < (wr.drewN nq).heap.size := hXq
              generalize wr.drewN nq = W1 at *
              go_wp2_with (at_builtin; refine wpList_append_keep _ rfl (.tmp 45) (.tmp 53) 42 rfl B 55 i0 _ 2 16 Tryd.underlying42 hi hz0 hz1 hz2 rfl (by decide) _ q.length (flat q) rfl (hov.alloc _) ⟨W1.heap.size, 0, none⟩ 1 1 [.int .i64 (max x1 65 + 32), .int .i64 (min x2 90 + 32)] rfl rfl (cell_two_new _ _ _ _) (by simp [Value.oneCell']) (by unfold maxLen; omega) (by omega) (by simp; omega) ?_; intro v2 w2 ha2)
              have hg2 := (World.grownBy_alloc W1 (.cells #[.int .i64 (max x1 65 + 32), .int .i64 (min x2 90 + 32)] 55) u4.ownBlock).trans ha2.grown
              have hb3 := (hbq.alloc hszq (.cells #[.int .i64 (max x1 65 + 32), .int .i64 (min x2 90 + 32)] 55)).grown ha2.grown (by simp; omega) (fun k hk => (hov.lt k hk).1)
              have hq0' : w2.cell? ⟨X, 0, none⟩ = some (.int .i64 x1) := (hg2.cell_far ⟨X, 0, none⟩ hXq HGQ.out).trans hq0
              have hq1' : w2.cell? ⟨X, 1, none⟩ = some (.int .i64 x2) := (hg2.cell_far ⟨X, 1, none⟩ hXq HGQ.out).trans hq1
              have hG2 : some X ≠ v2.ownBlock := by
                rcases ha2.at_ with e | e
                · rw [e]; exact HGQ.out
                · rw [e]; simp; omega
              have hX2 : X < w2.heap.size := Nat.lt_of_lt_of_le hXq hg2.size
              have HB3 := Lib.hid hb3
              have HQ0 := Lib.hid hq0'
              have HQ1 := Lib.hid hq1'
              clear hb3 hq0' hq1' hq0 hq1 hbq
              go_roundw
              case rel =>
                refine ⟨2, by omega, by go_num, ?_, HB3.out, HQ0.out, HQ1.out, hG2, hX2⟩
                have := ha2.own
                have e : exts (x1, x2) 2 = exts (x1, x2) 1 ++ [(max x1 65 + 32, min x2 90 + 32)] := by simp [exts, HP.out]
                rw [e, ← List.append_assoc, ← HQ.out]
                simpa [flat_append, flat, encR] using this
              case measure => simp [intOf]
            · have hpart : ext2 (x1, x2) = [] := by unfold ext2; rw [if_neg hp]
              have HP := Lib.hid hpart
              clear hpart
              go_wp2_with fail
              go_quiet (fail)
              go_wp2_with fail
              go_roundw
              case rel =>
                refine ⟨2, by omega, by go_num, ?_, bdrewN hbq nq, hq0, hq1, HGQ.out, hXq⟩
                have e : exts (x1, x2) 2 = exts (x1, x2) 1 := by simp [exts, HP.out]
                rw [e, ← HQ.out]
                exact hov nq
              case measure => simp [intOf]
          · go_wp2_with fail
            go_roundw
            case rel =>
              refine ⟨i + 1, by omega, by go_num, ?_, hbq⟩
              have e : q = l ++ (l.take (i + 1)).flatMap fun x => ext1 x ++ ext2 x := by
                rw [HQ.out, HPRE.out, List.take_add_one, HX.out]
                simp [exts]
              rw [← e]
              exact hov
            case measure => simp [intOf]; omega
      · obtain rfl : i = n := by omega
        have hfe : pre = foldR l := by rw [HPRE.out, List.take_of_length_le (by have := HLEN.out; omega)]; rfl
        have HFE := Lib.hid hfe
        have hin : ∀ x ∈ foldR l, inR x := fun x hx => inR_of (fold_ok HC.out.1 x hx)
        obtain ⟨A2, c2, rfl⟩ := own_shape hov
        have HCL := Lib.hid ((class_any A2 pre.length c2 pre wr (Reads.of_own hov) (by rw [hfe]; exact hin) (by omega)).mono fun e w' h => ClassPost.lower h hbel hszr hszr)
        have HFIN := Lib.hid (show ∀ e w', ClassPost pre B w e w' → ClsPost (rightB l) (foldR l) B w e w' from fun e w' h => by unfold ClsPost; rw [H1.out, ← HFE.out]; exact h)
        clear hfe hin hov HR hlt hi1
        go_wp2_with fail
        refine HCL.out.mono ?_
        intro e w5 h
        obtain ⟨v, k, rfl, h⟩ := class_two h
        have H := Lib.hid h
        clear h
        go_wp2_with fail
        go_ret2
        exact HFIN.out _ _ H.out
end Go.Proofs.YtgljhhlnnedmaaaDoor
