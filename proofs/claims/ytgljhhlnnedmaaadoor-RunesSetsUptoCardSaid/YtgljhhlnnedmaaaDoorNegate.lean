/- runes.Negate -/
import Derived.Test.YtgljhhlnnedmaaaDoorUnion
namespace Go.Proofs.YtgljhhlnnedmaaaDoor
open Go.RowKit

/-- A range met on the way: where the next gap begins, the gaps till now. -/
def gstep (s : Int × List (Int × Int)) (x : Int × Int) : Int × List (Int × Int) := (x.2 + 1, if s.1 < x.1 then s.2 ++ [(s.1, x.1 - 1)] else s.2)
def gapsS (l : List (Int × Int)) : Int × List (Int × Int) := l.foldl gstep (0, [])
def negR (l : List (Int × Int)) : List (Int × Int) := if (gapsS l).1 ≤ 1114111 then (gapsS l).2 ++ [((gapsS l).1, 1114111)] else (gapsS l).2
theorem gapsS_snoc (l : List (Int × Int)) (x : Int × Int) : gapsS (l ++ [x]) = gstep (gapsS l) x := by simp [gapsS]
/-- Of a class: what the walk knows of the gaps. -/
structure GInv (l : List (Int × Int)) : Prop where
  inr : ∀ x ∈ (gapsS l).2, inR x
  lo : 0 ≤ (gapsS l).1
  hi : (gapsS l).1 ≤ 1114112
  len : (gapsS l).2.length ≤ l.length
  gb : ∀ x ∈ (gapsS l).2, x.2 < (gapsS l).1
  lb : ∀ x ∈ l, x.2 < (gapsS l).1
  at_ : (gapsS l).1 = 0 ∨ ∃ z ∈ l, (gapsS l).1 = z.2 + 1
  mem : ∀ r, 0 ≤ r → r < (gapsS l).1 → (memB (gapsS l).2 r = true ↔ ¬ memB l r = true)
theorem ginv_step {l : List (Int × Int)} {x : Int × Int} (h : Cls (l ++ [x])) (g : GInv l) : GInv (l ++ [x]) := by
  have hx := okx_iff.1 (h.1 x (by simp))
  have hlast : (gapsS l).1 ≤ x.1 := by
    rcases g.at_ with e | ⟨z, hz, e⟩
    · omega
    · have := (List.pairwise_append.1 h.2).2.2 z hz x (by simp)
      omega
  have e := gapsS_snoc l x
  have glo := g.lo
  obtain ⟨a, gs, hag⟩ : ∃ a gs, gapsS l = (a, gs) := ⟨_, _, rfl⟩
  have ginr := g.inr
  have glen := g.len
  have ggb := g.gb
  have glb := g.lb
  have gmem := g.mem
  rw [hag] at hlast e glo ginr glen ggb glb gmem
  simp only [] at hlast glo ginr glen ggb glb gmem
  unfold gstep at e
  simp only [] at e
  by_cases hlt : a < x.1
  · rw [if_pos hlt] at e
    refine ⟨?_, ?_, ?_, ?_, ?_, ?_, ?_, ?_⟩ <;> rw [e] <;> simp only []
    · intro y hy
      rcases List.mem_append.1 hy with hy | hy
      · exact ginr y hy
      · simp only [List.mem_singleton] at hy; subst hy; unfold inR; simp only []; omega
    · omega
    · omega
    · simp only [List.length_append, List.length_singleton]; omega
    · intro y hy
      rcases List.mem_append.1 hy with hy | hy
      · have := ggb y hy; omega
      · simp only [List.mem_singleton] at hy; subst hy; simp only []; omega
    · intro y hy
      rcases List.mem_append.1 hy with hy | hy
      · have := glb y hy; omega
      · simp only [List.mem_singleton] at hy; subst hy; omega
    · exact .inr ⟨x, by simp, rfl⟩
    · intro r h0 h1
      rw [mem_append, mem_append, mem_one, mem_one]
      have n1 : a ≤ r → ¬ memB gs r = true := fun hr hm => by
        obtain ⟨y, hy, g1, g2⟩ := memB_iff.1 hm
        have := ggb y hy; omega
      have n2 : a ≤ r → ¬ memB l r = true := fun hr hm => by
        obtain ⟨y, hy, g1, g2⟩ := memB_iff.1 hm
        have := glb y hy; omega
      by_cases c1 : r < a
      · have := gmem r h0 c1
        constructor
        · rintro (q | q)
          · rintro (q' | q')
            · exact this.1 q q'
            · omega
          · simp only [] at q; omega
        · intro q
          exact .inl (this.2 fun q' => q (.inl q'))
      · by_cases c2 : r < x.1
        · constructor
          · rintro _ (q | q)
            · exact n2 (by omega) q
            · omega
          · intro _
            exact .inr ⟨by simp only []; omega, by simp only []; omega⟩
        · constructor
          · rintro (q | q)
            · exact absurd q (n1 (by omega))
            · simp only [] at q; omega
          · intro q
            exact absurd (.inr ⟨by omega, by omega⟩) q
  · rw [if_neg hlt] at e
    refine ⟨?_, ?_, ?_, ?_, ?_, ?_, ?_, ?_⟩ <;> rw [e] <;> simp only []
    · exact ginr
    · omega
    · omega
    · simp only [List.length_append, List.length_singleton]; omega
    · intro y hy
      have := ggb y hy; omega
    · intro y hy
      rcases List.mem_append.1 hy with hy | hy
      · have := glb y hy; omega
      · simp only [List.mem_singleton] at hy; subst hy; omega
    · exact .inr ⟨x, by simp, rfl⟩
    · intro r h0 h1
      rw [mem_append, mem_one]
      have n1 : a ≤ r → ¬ memB gs r = true := fun hr hm => by
        obtain ⟨y, hy, g1, g2⟩ := memB_iff.1 hm
        have := ggb y hy; omega
      by_cases c1 : r < a
      · have := gmem r h0 c1
        constructor
        · rintro q (q' | q')
          · exact this.1 q q'
          · omega
        · intro q
          exact this.2 fun q' => q (.inl q')
      · constructor
        · intro q
          exact absurd q (n1 (by omega))
        · intro q
          exact absurd (.inr ⟨by omega, by omega⟩) q
theorem ginv_take {l : List (Int × Int)} (h : Cls l) : ∀ i, i ≤ l.length → GInv (l.take i) := by
  intro i
  induction i with
  | zero => intro _; exact ⟨by simp [gapsS], by simp [gapsS], by simp [gapsS], by simp [gapsS], by simp [gapsS], by simp, .inl rfl, fun r h1 h2 => by simp [gapsS] at h2; omega⟩
  | succ i ih =>
    intro hi
    have hx := List.getElem?_eq_getElem (show i < l.length by omega)
    have e : l.take (i + 1) = l.take i ++ [l[i]] := by rw [List.take_add_one, hx]; rfl
    rw [e]
    refine ginv_step ?_ (ih (by omega))
    rw [← e]
    exact ⟨fun x hx => h.1 x (List.mem_of_mem_take hx), h.2.sublist (List.take_sublist _ _)⟩
theorem ginv {l : List (Int × Int)} (h : Cls l) : GInv l := by
  have := ginv_take h l.length (Nat.le_refl _)
  rwa [List.take_length] at this
theorem neg_inr {l : List (Int × Int)} (h : Cls l) : ∀ x ∈ negR l, inR x := by
  have g := ginv h
  unfold negR
  split
  · intro x hx
    rcases List.mem_append.1 hx with hx | hx
    · exact g.inr x hx
    · simp only [List.mem_singleton] at hx; subst hx; have := g.lo; unfold inR; simp only []; omega
  · exact g.inr
theorem neg_len {l : List (Int × Int)} (h : Cls l) : (negR l).length ≤ l.length + 1 := by
  have g := ginv h
  have := g.len
  unfold negR
  split
  · rw [List.length_append, List.length_singleton]; omega
  · omega
theorem neg_mem {l : List (Int × Int)} (h : Cls l) (r : Int) : dom r = true ∧ memB (negR l) r = true ↔ dom r = true ∧ ¬ memB l r = true := by
  have g := ginv h
  have hr : dom r = true → 0 ≤ r ∧ r ≤ 1114111 := fun h => by rw [dom_iff] at h; omega
  have n1 : (gapsS l).1 ≤ r → ¬ memB (gapsS l).2 r = true := fun hr hm => by
    obtain ⟨y, hy, g1, g2⟩ := memB_iff.1 hm
    have := g.gb y hy; omega
  have n2 : (gapsS l).1 ≤ r → ¬ memB l r = true := fun hr hm => by
    obtain ⟨y, hy, g1, g2⟩ := memB_iff.1 hm
    have := g.lb y hy; omega
  constructor
  · rintro ⟨hd, hm⟩
    have h0 := hr hd
    refine ⟨hd, ?_⟩
    by_cases c : r < (gapsS l).1
    · refine (g.mem r h0.1 c).1 ?_
      unfold negR at hm
      split at hm
      · rcases mem_append.1 hm with q | q
        · exact q
        · have := mem_one.1 q; simp only [] at this; omega
      · exact hm
    · exact n2 (by omega)
  · rintro ⟨hd, hm⟩
    have h0 := hr hd
    refine ⟨hd, ?_⟩
    unfold negR
    by_cases c : r < (gapsS l).1
    · have := (g.mem r h0.1 c).2 hm
      split
      · exact mem_append.2 (.inl this)
      · exact this
    · rw [if_pos (by omega)]
      exact mem_append.2 (.inr (mem_one.2 ⟨by simp only []; omega, h0.2⟩))

set_option maxRecDepth 100000 in
set_option maxHeartbeats 2000000 in
theorem negate_any (A : Option Addr) (n c : Nat) (l : List (Int × Int)) (w : World) (hr : Reads w w.heap.size 2 A n c (flat l)) :
    Calls Tryd.prog 27 #[.slice A n c] w (ClsPost (rightB l) (negR l) w.heap.size w) := by
  obtain ⟨i0, hi, hz0, hz1, hz2⟩ := info_parts info_rng
  obtain ⟨B, hB⟩ : ∃ B, B = w.heap.size := ⟨_, rfl⟩
  rw [← hB] at hr
  have HR1 := Lib.hid (right_any A n c l w (by rw [← hB]; exact hr))
  rw [← hB]
  have hBs : B ≤ w.heap.size := by omega
  have hlen : l.length = n := by have := hr.len; rw [flat_length] at this; omega
  have HLEN := Lib.hid hlen
  have HR := Lib.hid hr
  have hnc := hr.le
  have hcap := hr.cap
  clear hB hlen hr
  go_enter Tryd.func27, Tryd.ntmps27
  go_wp2_with fail
  refine HR1.out.mono ?_
  rintro e w1 ⟨rfl, hb1⟩
  have hb1 : Below B w w1 := hb1.mono hBs
  have hs1 : B ≤ w1.heap.size := Nat.le_trans hBs hb1.size
  clear HR1
  cases hd1 : rightB l with
  | false =>
    simp only []
    go_wp2_with fail
    go_ret2
    unfold ClsPost
    rw [hd1]
    exact ⟨rfl, hb1⟩
  | true =>
    have hn1 : n ≤ 5000 := by have := (of_right hd1).2; have := HLEN.out; omega
    have HC := Lib.hid (of_right hd1).1
    have H1 := Lib.hid hd1
    clear hd1
    simp only []
    go_wp2_with fail
    go_loopw [4, 5, 13] (fun v a p wr => ∃ i : Nat, i ≤ n ∧ p = .int .i64 i ∧ a = .int .i64 (gapsS (l.take i)).1 ∧ wr.ownsRow B 55 2 v (gapsS (l.take i)).2.length (flat (gapsS (l.take i)).2) ∧ Below B w wr) (fun _ _ p _ => n - (intOf p).toNat)
    case atStart => exact ⟨0, Nat.zero_le _, rfl, rfl, World.ownsRow_nil _ _ _ _, hb1⟩
    case round =>
      obtain ⟨i, hi1, rfl, rfl, hov, hbel⟩ := hrel
      have hszr : B ≤ wr.heap.size := Nat.le_trans hBs hbel.size
      have hgi := ginv_take HC.out i (by have := HLEN.out; omega)
      have g1 := hgi.lo
      have g2 := hgi.hi
      have g3 := hgi.len
      rw [List.length_take] at g3
      have HGI := Lib.hid hgi
      clear hgi
      obtain ⟨a, gs, hag⟩ : ∃ a gs, gapsS (l.take i) = (a, gs) := ⟨_, _, rfl⟩
      rw [hag] at hov g1 g2 g3 ⊢
      simp only [] at hov g1 g2 g3 ⊢
      have HAG := Lib.hid hag
      clear hag
      by_cases hlt : i < n
      · obtain ⟨x, hx⟩ : ∃ x, l[i]? = some x := ⟨_, List.getElem?_eq_getElem (by have := HLEN.out; omega)⟩
        obtain ⟨b, off, rfl, hb, hcell⟩ := (HR.out.below hbel).at_ (by omega)
        have hc1 : wr.cell? ⟨b, off + i * 2, none⟩ = some (.int .i64 x.1) := hcell _ _ (flat_get l i x hx).1
        have hc2 : wr.cell? ⟨b, off + i * 2 + 1, none⟩ = some (.int .i64 x.2) := by rw [Nat.add_assoc]; exact hcell _ _ (flat_get l i x hx).2
        have hxo := okx_iff.1 (HC.out.1 x (List.mem_of_getElem? hx))
        have HS := Lib.hid (show gapsS (l.take (i + 1)) = gstep (a, gs) x from by rw [List.take_add_one, hx, ← HAG.out]; exact gapsS_snoc _ _)
        obtain ⟨x1, x2⟩ := x
        have hx1 : 0 ≤ x1 := hxo.1
        have hx2 : x1 ≤ x2 := hxo.2.1
        have hx3 : x2 ≤ 1114111 := hxo.2.2.1
        clear hcell hx hxo
        have hbx0 : (wr.alloc (.cells #[.int .i64 x1, .int .i64 x2] 55)).cell? ⟨wr.heap.size, 1, none⟩ = some (.int .i64 x2) := by go_simp
        have hGv : some wr.heap.size ≠ u4.ownBlock := fun h => by have := (hov.lt _ h.symm).2; omega
        by_cases hg : a < x1
        · have hov1 := (hov.alloc (.cells #[.int .i64 x1, .int .i64 x2] 55)).alloc (.cells #[.int .i64 a, .int .i64 (x1 - 1)] 55)
          have hbe1 := (hbel.alloc hszr (.cells #[.int .i64 x1, .int .i64 x2] 55)).alloc (by simp; omega) (.cells #[.int .i64 a, .int .i64 (x1 - 1)] 55)
          have hbx1 : ((wr.alloc (.cells #[.int .i64 x1, .int .i64 x2] 55)).alloc (.cells #[.int .i64 a, .int .i64 (x1 - 1)] 55)).cell? ⟨wr.heap.size, 1, none⟩ = some (.int .i64 x2) := (World.cell?_alloc_lt _ _ ⟨wr.heap.size, 1, none⟩ (by simp)).trans hbx0
          have HBX := Lib.hid hbx1
          have HGV := Lib.hid hGv
          clear hbx0 hbx1 hGv
          go_wp2_with (at_builtin; refine wpList_append_keep _ rfl (.tmp 21) (.tmp 27) 42 rfl B 55 i0 _ 2 16 Tryd.underlying42 hi hz0 hz1 hz2 rfl (by decide) _ gs.length (flat gs) rfl hov1 ⟨wr.heap.size + 1, 0, none⟩ 1 1 [.int .i64 a, .int .i64 (x1 - 1)] rfl rfl (by simpa using cell_two_new (wr.alloc (.cells #[.int .i64 x1, .int .i64 x2] 55)) (.int .i64 a) (.int .i64 (x1 - 1)) 55) (by simp [Value.oneCell']) (by unfold maxLen; omega) (by omega) (by simp; omega) ?_; intro v2 w2 ha2; have hbx : w2.cell? ⟨wr.heap.size, 1, none⟩ = some (.int .i64 x2) := (ha2.grown.cell_far ⟨wr.heap.size, 1, none⟩ (by simp; omega) HGV.out).trans HBX.out)
          have hbe2 := hbe1.grown ha2.grown (by simp; omega) (fun k hk => (hov.lt k hk).1)
          go_roundw
          case rel =>
            refine ⟨i + 1, by omega, by go_num, ?_, ?_, hbe2⟩
            · rw [HS.out]; rfl
            · rw [HS.out]
              unfold gstep
              rw [if_pos hg]
              simpa [flat_append, flat, encR] using ha2.own
          case measure => simp [intOf]; omega
        · have hov1 := hov.alloc (.cells #[.int .i64 x1, .int .i64 x2] 55)
          have hbe1 := hbel.alloc hszr (.cells #[.int .i64 x1, .int .i64 x2] 55)
          clear hGv hov
          go_wp2_with fail
          go_roundw
          case rel =>
            refine ⟨i + 1, by omega, by go_num, ?_, ?_, hbe1⟩
            · rw [HS.out]; rfl
            · rw [HS.out]
              unfold gstep
              rw [if_neg hg]
              exact hov1
          case measure => simp [intOf]; omega
      · obtain rfl : i = n := by omega
        have HT := Lib.hid (show gapsS l = (a, gs) from by rw [← HAG.out, List.take_of_length_le (by have := HLEN.out; omega)])
        have HN := Lib.hid (show negR l = if a ≤ 1114111 then gs ++ [(a, 1114111)] else gs from by unfold negR; rw [HT.out])
        have HIN := Lib.hid (neg_inr HC.out)
        have HIL := Lib.hid (neg_len HC.out)
        clear HR hlt hi1
        have HCL := Lib.hid (show ∀ (u : World) (A' : Option Addr) (c' k : Nat), B ≤ u.heap.size → Below B w u → k = (negR l).length → u.ownsRow B 55 2 (.slice A' k c') k (flat (negR l)) → Calls Tryd.prog 40 #[.slice A' k c'] u (ClassPost (negR l) B w) from fun u A' c' k h1 h2 h3 h4 => by
          have := HIL.out
          have := HLEN.out
          exact (class_any A' k c' (negR l) u (Reads.of_own h4) HIN.out (by omega)).mono fun e w' h => h.lower h2 h1 h1)
        have HFIN := Lib.hid (show ∀ e w', ClassPost (negR l) B w e w' → ClsPost (rightB l) (negR l) B w e w' from fun e w' h => by unfold ClsPost; rw [H1.out]; exact h)
        clear HIN HIL HC HT
        have hcls : ∀ (e : Ending) (w' : World), ClassPost (negR l) B w e w' → ∃ v k, e = .returned (.tuple #[v, .int .i64 k]) ∧ ClassPost (negR l) B w (.returned (.tuple #[v, .int .i64 k])) w' := fun e w' h => by
          obtain ⟨S, hp, hs, hb, hif⟩ := h
          split at hif
          · subst hif; exact ⟨_, _, rfl, S, hp, hs, hb, by rw [if_pos ‹_›]⟩
          · obtain ⟨v, rfl, ho⟩ := hif
            exact ⟨_, _, rfl, S, hp, hs, hb, by rw [if_neg ‹_›]; exact ⟨v, rfl, ho⟩⟩
        have HCLS := Lib.hid hcls
        clear hcls
        by_cases hg : a ≤ 1114111
        · have hN : negR l = gs ++ [(a, 1114111)] := by rw [HN.out, if_pos hg]
          have HN2 := Lib.hid hN
          clear hN HN
          have hov1 := hov.alloc (.cells #[.int .i64 a, .int .i64 1114111] 55)
          have hbe1 := hbel.alloc hszr (.cells #[.int .i64 a, .int .i64 1114111] 55)
          go_wp2_with (at_builtin; refine wpList_append_keep _ rfl (.tmp 35) (.tmp 38) 42 rfl B 55 i0 _ 2 16 Tryd.underlying42 hi hz0 hz1 hz2 rfl (by decide) _ gs.length (flat gs) rfl hov1 ⟨wr.heap.size, 0, none⟩ 1 1 [.int .i64 a, .int .i64 1114111] rfl rfl (cell_two_new _ _ _ _) (by simp [Value.oneCell']) (by unfold maxLen; omega) (by omega) (by simp; omega) ?_; intro v2 w2 ha2)
          have hbe2 := hbe1.grown ha2.grown (by simp; omega) (fun k hk => (hov.lt k hk).1)
          have hown := ha2.own
          have e1 : flat gs ++ [.int .i64 a, .int .i64 1114111] = flat (negR l) := by rw [HN2.out, flat_append]; rfl
          have e2 : gs.length + 1 = (negR l).length := by rw [HN2.out, List.length_append]; rfl
          rw [e1] at hown
          obtain ⟨A2, c2, rfl⟩ := own_shape hown
          refine (HCL.out w2 A2 c2 _ (Nat.le_trans hBs hbe2.size) hbe2 e2 hown).mono ?_
          intro e w5 h
          obtain ⟨v, k, rfl, h⟩ := HCLS.out e w5 h
          have H := Lib.hid h
          clear h e1 e2 hown ha2 hbe2 hov1 hbe1 hov
          go_wp2_with fail
          go_ret2
          exact HFIN.out _ _ H.out
        · have hN : negR l = gs := by rw [HN.out, if_neg hg]
          have HN2 := Lib.hid hN
          clear hN HN
          obtain ⟨A2, c2, rfl⟩ := own_shape hov
          go_wp2_with fail
          refine (HCL.out wr A2 c2 gs.length hszr hbel (by rw [HN2.out]) (by rw [HN2.out]; exact hov)).mono ?_
          intro e w5 h
          obtain ⟨v, k, rfl, h⟩ := HCLS.out e w5 h
          have H := Lib.hid h
          clear h hov
          go_wp2_with fail
          go_ret2
          exact HFIN.out _ _ H.out
end Go.Proofs.YtgljhhlnnedmaaaDoor
