/- slices.Clone of a row of ints. -/
import Derived.Test.YteiggbbljgkloaaProg
import Derived.Test.YteiggbbljgkloaaQMem
import Derived.Lib.AppendZerosOnto
import Derived.WalkSpells
import Derived.Lib.SliceRun
import Derived.Handy
import Derived.Test.YteiggbbljgkloaaQStack
import Derived.BigQuiet
import Derived.Deep.QuietTactic
import Derived.Deep.AppendLies
import Derived.WalkMore
namespace Go.Proofs.Yteiggbbljgkloaa
open Go.RowKit

theorem int_info : (Try.prog.info? 3).map (fun i => (i.zero, i.size, i.bytes)) = some (some (.int .i64 0), 1, 8) := by kernel_rfl
set_option maxRecDepth 100000 in
set_option maxHeartbeats 2000000 in
/-- Clone. -/
theorem clone_any (A : Option Addr) (n c : Nat) (l : List Int) (w : World) (hA : A = none → c = 0) (hr : Reads w w.heap.size 1 A n c (l.map (Value.int .i64))) (hn : n ≤ 4194304) :
    Calls Try.prog 25 #[.slice A n c] w fun e w' => ∃ v, e = .returned v ∧ w'.ownsRow w.heap.size 3 1 v l.length (l.map (Value.int .i64)) ∧ Below w.heap.size w w' := by
  obtain ⟨i0, hi, hz0, hz1, hz2⟩ := info_parts int_info
  have hlen : l.length = n := by have := hr.len; simpa using this
  have HLEN := Lib.hid hlen
  clear hlen
  have hnc := hr.le
  have hcap := hr.cap
  have heq := Lib.run_eql_slice_nil (P := Try.prog) w 25 3 A n c 0 0 Try.underlying25
  cases A with
  | none =>
    obtain rfl : c = 0 := hA rfl
    obtain rfl : n = 0 := by omega
    obtain rfl : l = [] := List.eq_nil_of_length_eq_zero HLEN.out
    have HR := Lib.hid hr
    clear hr hA
    go_enter Try.func25, Try.ntmps25
    go_wp2_with fail
    go_ret
    exact ⟨_, rfl, World.ownsRow_nil _ _ _ _, Below.refl _ _⟩
  | some ad =>
    have hr1 : Reads (w.alloc (.cells #[] 3)) w.heap.size 1 (some ad) n c (l.map (Value.int .i64)) := hr.alloc (Nat.le_refl _) _
    have ho : (w.alloc (.cells #[] 3)).ownsRow w.heap.size 3 1 (.slice (some ⟨w.heap.size, 0, none⟩) 0 0) 0 [] := own_lit w w.heap.size 3 1 0 #[] [] (Nat.le_refl _) rfl rfl (by decide)
    have hb : Below w.heap.size w (w.alloc (.cells #[] 3)) := (Below.refl _ _).alloc (Nat.le_refl _) _
    have HR := Lib.hid hr1
    have HO := Lib.hid ho
    clear hr hr1 ho hA
    go_enter Try.func25, Try.ntmps25
    go_wp2_with (at_builtin; refine wpList_append_reads rfl (.tmp 5) (.tmp 6) 25 rfl w.heap.size 3 i0 (.int .i64 0) 1 8 Try.underlying25 hi hz0 hz1 hz2 rfl (by decide) _ 0 [] rfl HO.out (some ad) w.heap.size n c (l.map (Value.int .i64)) rfl (fun h => by cases h) HR.out (ints_oneCell _ _) (by unfold maxLen; omega) (by omega) (by simp) ?_; intro v1 w1 ha1)
    go_ret
    have hbe := hb.grown ha1.grown (by simp) (fun k hk => (HO.out.lt k hk).1)
    have := ha1.own
    rw [Nat.zero_add, List.nil_append, ← HLEN.out] at this
    exact ⟨_, rfl, this, hbe⟩

end Go.Proofs.Yteiggbbljgkloaa
/- sparse.Set: a set of small numbers in memory. -/
namespace Go.Proofs.Yteiggbbljgkloaa
open Go.RowKit Go.Proofs.Yteiggbbljgkloaa.Mach

def natVals (l : List Nat) : List Value := l.map fun x : Nat => .int .i64 (x : Int)
theorem natVals_get {l : List Nat} {j i : Nat} (h : l[j]? = some i) : (natVals l)[j]? = some (.int .i64 (i : Int)) := by unfold natVals; rw [List.getElem?_map, h]; rfl
/-- The numbers l are in, in their order; numbers below N may be. -/
structure SetM (w : World) (base sb ab : Nat) (LV : Value) (N : Nat) (l : List Nat) : Prop where
  blk : Blk w sb 92 [LV, .slice (some ⟨ab, 0, none⟩) N N]
  at_ : ∃ ats : List Nat, ats.length = N ∧ Blk w ab 3 (natVals ats) ∧ ∀ j i, l[j]? = some i → i < N ∧ ats[i]? = some j
  own : w.ownsRow base 3 1 LV l.length (natVals l)
  lo : base ≤ sb ∧ base ≤ ab
  far : some ab ≠ LV.ownBlock
section
variable {w w' : World} {base sb ab N : Nat} {LV : Value} {l : List Nat}
theorem SetM.drewN (h : SetM w base sb ab LV N l) (k : Nat) : SetM (w.drewN k) base sb ab LV N l := by
  obtain ⟨ats, h1, h2, h3⟩ := h.at_
  exact ⟨h.blk.drewN k, ⟨ats, h1, h2.drewN k, h3⟩, own_drewN h.own k, h.lo, h.far⟩
theorem SetM.below (h : SetM w base sb ab LV N l) (hb : Below w.heap.size w w') : SetM w' base sb ab LV N l := by
  obtain ⟨ats, h1, h2, h3⟩ := h.at_
  exact ⟨h.blk.below hb h.blk.lt, ⟨ats, h1, h2.below hb h2.lt, h3⟩, own_below h.own hb, h.lo, h.far⟩
theorem SetM.kept {L : List Nat} (h : SetM w base sb ab LV N l) (k : Kept w w' L) (h1 : sb ∉ L) (h2 : ab ∉ L) (h3 : ∀ b, LV.ownBlock = some b → b ∉ L) : SetM w' base sb ab LV N l := by
  obtain ⟨ats, g1, g2, g3⟩ := h.at_
  exact ⟨h.blk.kept k h1, ⟨ats, g1, g2.kept k h2, g3⟩, own_kept h.own k h3, h.lo, h.far⟩
end

set_option maxRecDepth 100000 in
set_option maxHeartbeats 2000000 in
theorem setHas_any (base sb ab N i : Nat) (LV : Value) (l : List Nat) (w : World) (h : SetM w base sb ab LV N l) (hi : i < N) (hN : N ≤ 1048576) (hl : l.length ≤ 1048576) :
    Calls Try.prog 55 #[.pointer (some ⟨sb, 0, none⟩), .int .i64 (i : Int)] w fun e w' => e = .returned (.bool (decide (i ∈ l))) ∧ w = w' := by
  obtain ⟨ats, ha1, ha2, ha3⟩ := h.at_
  obtain ⟨A, c, rfl⟩ := own_shape h.own
  obtain ⟨k, hk⟩ : ∃ k, ats[i]? = some k := ⟨_, List.getElem?_eq_getElem (by omega)⟩
  have c0 : w.cell? ⟨sb, 0, none⟩ = some (.slice A l.length c) := h.blk.cell 0
  have c1 : w.cell? ⟨sb, 1, none⟩ = some (.slice (some ⟨ab, 0, none⟩) N N) := h.blk.cell 1
  have c2 : w.cell? ⟨ab, i, none⟩ = some (.int .i64 (k : Int)) := by rw [ha2.cell]; exact natVals_get hk
  have c3 := h.blk.lt
  have hi2 : (i : Int) < (N : Int) := by omega
  have hi3 : ¬ ((N : Int) ≤ (i : Int)) := by omega
  by_cases hkl : k < l.length
  · obtain ⟨x, hx⟩ : ∃ x, l[k]? = some x := ⟨_, List.getElem?_eq_getElem hkl⟩
    obtain ⟨g, rfl, _, _, _⟩ := own_form h.own (by omega)
    have c4 : w.cell? ⟨g, k, none⟩ = some (.int .i64 (x : Int)) := by rw [h.own.cellAt k (by omega)]; exact natVals_get hx
    have hkl2 : (k : Int) < (l.length : Int) := by omega
    have HM := Lib.hid (show decide (i ∈ l) = ((x : Int) == (i : Int)) from by
      rw [Bool.eq_iff_iff, decide_eq_true_eq, beq_iff_eq]
      constructor
      · intro hm
        obtain ⟨j, hj⟩ := List.mem_iff_getElem?.1 hm
        have := (ha3 j i hj).2
        rw [hk] at this
        obtain rfl := Option.some.inj this
        rw [hx] at hj
        exact congrArg (Nat.cast) (Option.some.inj hj)
      · intro he
        have : x = i := by omega
        exact List.mem_iff_getElem?.2 ⟨k, by rw [hx, this]⟩)
    clear h ha1 ha2 ha3 hk hx
    go_enter Try.func55, Try.ntmps55
    go_wp2_with fail
    go_ret
    exact ⟨ret_bool HM.out.symm, rfl⟩
  · have hkl2 : ¬ ((k : Int) < (l.length : Int)) := by omega
    have HM := Lib.hid (show decide (i ∈ l) = false from by
      rw [decide_eq_false_iff_not]
      intro hm
      obtain ⟨j, hj⟩ := List.mem_iff_getElem?.1 hm
      have := (ha3 j i hj).2
      rw [hk] at this
      obtain rfl := Option.some.inj this
      exact hkl (List.getElem?_eq_some_iff.1 hj).1)
    clear h ha1 ha2 ha3 hk
    go_enter Try.func55, Try.ntmps55
    go_wp2_with fail
    go_ret
    exact ⟨ret_bool HM.out.symm, rfl⟩
end Go.Proofs.Yteiggbbljgkloaa
/- sparse.Set: New, Clear, Add. -/
namespace Go.Proofs.Yteiggbbljgkloaa
open Go.RowKit Go.Proofs.Yteiggbbljgkloaa.Mach

theorem SetM.lt {w : World} {base sb ab N : Nat} {LV : Value} {l : List Nat} (h : SetM w base sb ab LV N l) : ∀ i ∈ l, i < N := by
  obtain ⟨ats, _, _, h3⟩ := h.at_
  intro i hi
  obtain ⟨j, hj⟩ := List.mem_iff_getElem?.1 hi
  exact (h3 j i hj).1
theorem SetM.nodup {w : World} {base sb ab N : Nat} {LV : Value} {l : List Nat} (h : SetM w base sb ab LV N l) : l.Nodup := by
  obtain ⟨ats, _, _, h3⟩ := h.at_
  rw [List.nodup_iff_pairwise_ne, List.pairwise_iff_getElem]
  intro i j hi hj hij he
  have h1 := (h3 i l[i] (List.getElem?_eq_getElem hi)).2
  have h2 := (h3 j l[j] (List.getElem?_eq_getElem hj)).2
  rw [← he, h1] at h2
  have := Option.some.inj h2
  omega
theorem nodup_le : ∀ (N : Nat) (l : List Nat), l.Nodup → (∀ i ∈ l, i < N) → l.length ≤ N
  | 0, l, _, h => by
    match l with
    | [] => exact Nat.le_refl _
    | a :: _ => exact absurd (h a List.mem_cons_self) (by omega)
  | N + 1, l, hn, h => by
    have h1 := nodup_le N (l.erase N) (hn.erase N) (fun i hi => by
      have h2 := (hn.mem_erase_iff).1 hi
      have h3 := h i h2.2
      have h4 := h2.1
      omega)
    have h2 := List.length_erase (a := N) (l := l)
    split at h2 <;> omega
theorem SetM.size {w : World} {base sb ab N : Nat} {LV : Value} {l : List Nat} (h : SetM w base sb ab LV N l) : l.length ≤ N := by
  exact nodup_le N l h.nodup h.lt


set_option maxRecDepth 100000 in
set_option maxHeartbeats 2000000 in
theorem setNew_any (n : Nat) (w : World) (hn : n ≤ 20000) :
    Calls Try.prog 27 #[.int .i64 (n : Int)] w fun e w' => e = .returned (.pointer (some ⟨w.heap.size + 1, 0, none⟩)) ∧ SetM w' w.heap.size (w.heap.size + 1) w.heap.size (.slice none 0 0) n [] ∧ Below w.heap.size w w' := by
  obtain ⟨iI, hiI, hz0I, hz1I, hz2I⟩ := info_parts int_info
  have hmx : max (n : Int) 0 = (n : Int) := by omega
  have hmn : min (n : Int) 1048576 = (n : Int) := by omega
  have hmkC : ∀ u : World, (Instr.makeSlice 25 (.int .i64 (n : Int)) (.int .i64 (n : Int))).run Try.prog u =
      .ok (.slice (some ⟨u.heap.size, 0, none⟩) n n) (u.alloc (.cells (natVals (List.replicate n 0)).toArray 3)) := fun u => by
    have h := run_make (P := Try.prog) u 25 3 iI (.int .i64 0) Try.underlying25 hiI hz0I .i64 .i64 (n : Int) (n : Int) (by omega) (Int.le_refl _) (by rw [hz2I]; omega) (by omega)
    have hmd : madeCells #[.int .i64 0] n = (natVals (List.replicate n 0)).toArray := by
      apply Array.toList_inj.1
      rw [toList_madeCells_one]; simp [natVals]
    rw [Int.toNat_natCast] at h
    rw [← hmd]
    simpa [hz1I, Value.cells] using h
  clear hiI hz0I hz1I hz2I
  go_enter Try.func27, Try.ntmps27
  go_wp2_with fail
  go_ret
  have hsz : (w.alloc (.cells (natVals (List.replicate n 0)).toArray 3)).heap.size = w.heap.size + 1 := by simp
  have ha := Blk.new w 3 (natVals (List.replicate n 0))
  have hs := Blk.new (w.alloc (.cells (natVals (List.replicate n 0)).toArray 3)) 92 [.slice none 0 0, .slice (some ⟨w.heap.size, 0, none⟩) n n]
  rw [hsz] at hs
  refine ⟨by simp, ⟨hs, ⟨List.replicate n 0, by simp, ha.alloc _, by simp⟩, World.ownsRow_nil _ _ _ _, by omega, by simp [Value.ownBlock]⟩, ((Below.refl _ _).alloc (Nat.le_refl _) _).alloc (by simp) _⟩

set_option maxRecDepth 100000 in
set_option maxHeartbeats 2000000 in
theorem setAdd_old (base sb ab N i : Nat) (LV : Value) (l : List Nat) (w : World) (h : SetM w base sb ab LV N l) (hi : i < N) (hN : N ≤ 1048576) (hm : i ∈ l) :
    Calls Try.prog 39 #[.pointer (some ⟨sb, 0, none⟩), .int .i64 (i : Int)] w fun e w' => e = .returned (.bool false) ∧ w = w' := by
  have HH := Lib.hid (setHas_any base sb ab N i LV l w h hi hN (Nat.le_trans h.size hN))
  rw [decide_eq_true hm] at HH
  have c1 : w.cell? ⟨sb, 1, none⟩ = some (.slice (some ⟨ab, 0, none⟩) N N) := h.blk.cell 1
  have c3 := h.blk.lt
  have hi2 : ¬ ((i : Int) < 0) := by omega
  have hi3 : ¬ ((N : Int) ≤ (i : Int)) := by omega
  clear h hm
  go_enter Try.func39, Try.ntmps39
  go_wp2_with (go_at_call 55; refine HH.out.mono ?_; rintro e w' ⟨rfl, rfl⟩; simp only [])
  go_ret
  exact ⟨by first | rfl | simp, rfl⟩

set_option maxRecDepth 100000 in
set_option maxHeartbeats 2000000 in
theorem setAdd_new (base sb ab N i : Nat) (LV : Value) (l : List Nat) (w : World) (h : SetM w base sb ab LV N l) (hi : i < N) (hN : N ≤ 1048576) (hm : i ∉ l) (hbase : base ≤ w.heap.size) :
    Calls Try.prog 39 #[.pointer (some ⟨sb, 0, none⟩), .int .i64 (i : Int)] w fun e w' => e = .returned (.bool true) ∧
      ∃ LV', SetM w' base sb ab LV' N (l ++ [i]) ∧ Kept w w' (sb :: ab :: LV.ownBlock.toList) ∧ (LV'.ownBlock = LV.ownBlock ∨ ∃ k, w.heap.size ≤ k ∧ LV'.ownBlock = some k) := by
  have HH := Lib.hid (setHas_any base sb ab N i LV l w h hi hN (Nat.le_trans h.size hN))
  rw [decide_eq_false hm] at HH
  have HM := Lib.hid hm
  have hsz := h.size
  obtain ⟨A, c, rfl⟩ := own_shape h.own
  have c0 : w.cell? ⟨sb, 0, none⟩ = some (.slice A l.length c) := h.blk.cell 0
  have c1 : w.cell? ⟨sb, 1, none⟩ = some (.slice (some ⟨ab, 0, none⟩) N N) := h.blk.cell 1
  have c3 := h.blk.lt
  have hi1 : (i : Int) < (N : Int) := by omega
  have hi2 : ¬ ((i : Int) < 0) := by omega
  have hi3 : ¬ ((N : Int) ≤ (i : Int)) := by omega
  obtain ⟨ats, hal, hab, hat⟩ := h.at_
  obtain ⟨z, hz⟩ : ∃ z, ats[i]? = some z := ⟨_, List.getElem?_eq_getElem (by omega)⟩
  have a0 : w.cell? ⟨ab, i, none⟩ = some (.int .i64 (z : Int)) := by rw [hab.cell]; exact natVals_get hz
  have a1 : w.frozen? ⟨ab, i, none⟩ = false := hab.frozen i
  have a2 := hab.lt
  have hne : sb ≠ ab := h.blk.ne_ hab (by decide)
  obtain ⟨iI, hiI, hz0, hz1, hz2⟩ := info_parts int_info
  have H := Lib.hid h
  have HAB := Lib.hid hab
  have HAT := Lib.hid hat
  have HAL := Lib.hid hal
  clear h hm hat hab hal hz
  go_enter Try.func39, Try.ntmps39
  go_wp2_with (go_at_call 55; refine HH.out.mono ?_; rintro e w' ⟨rfl, rfl⟩; simp only [])
  go_region
  all_goals
    have hw1 : ((w.setCell ⟨ab, i, none⟩ (.int .i64 (l.length : Int))).drew).cell? ⟨sb, 0, none⟩ = some (.slice A l.length c) := (H.out.blk.far (p := ⟨ab, i, none⟩) hne (.int .i64 (l.length : Int))).cell 0
    have hb1 : Blk ((w.setCell ⟨ab, i, none⟩ (.int .i64 (l.length : Int))).drew) sb 92 [.slice A l.length c, .slice (some ⟨ab, 0, none⟩) N N] := (H.out.blk.far (p := ⟨ab, i, none⟩) hne (.int .i64 (l.length : Int))).drew
    have ha1 : Blk ((w.setCell ⟨ab, i, none⟩ (.int .i64 (l.length : Int))).drew) ab 3 (natVals (ats.set i l.length)) := by
      have := (HAB.out.set_ i (.int .i64 (l.length : Int))).drew
      rw [show (natVals ats).set i (.int .i64 (l.length : Int)) = natVals (ats.set i l.length) from by unfold natVals; rw [List.map_set]] at this
      exact this
    have hk1 : Kept w ((w.setCell ⟨ab, i, none⟩ (.int .i64 (l.length : Int))).drew) [ab] := (Kept.setCell ⟨ab, i, none⟩ (.int .i64 (l.length : Int))).trans (Kept.drew (L := [])) |>.more (by simp)
    have ho1 : ((w.setCell ⟨ab, i, none⟩ (.int .i64 (l.length : Int))).drew).ownsRow base 3 1 (.slice A l.length c) l.length (natVals l) := own_kept H.out.own hk1 (fun b hb hm => by rw [List.mem_singleton] at hm; exact H.out.far (by rw [hb, hm]))
    have hs1 : base ≤ ((w.setCell ⟨ab, i, none⟩ (.int .i64 (l.length : Int))).drew).heap.size := Nat.le_trans hbase hk1.size
    generalize (w.setCell ⟨ab, i, none⟩ (.int .i64 (l.length : Int))).drew = w1 at *
    have HO := Lib.hid ho1
    have HA := Lib.hid ha1
    have HB := Lib.hid hb1
    have c5 := hb1.lt
    clear ho1 ha1 hb1 c0 c1 a0 a1
    go_wp2_with (at_builtin; go_loud (refine wpList_append_lies _ rfl (.tmp 36) (.tmp 38) 25 rfl base 3 iI (.int .i64 0) 1 8 Try.underlying25 hiI hz0 hz1 hz2 rfl (by decide) (.slice A l.length c) l.length (natVals l) rfl (own_below HO.out ((Below.refl _ _).alloc (Nat.le_refl _) _)) ⟨w1.heap.size, 0, none⟩ 1 1 [.int .i64 (i : Int)] rfl rfl (new_at w1 _ [.int .i64 (i : Int)]) (by simp [Value.oneCell']) (by decide) (by unfold maxLen; omega) (by omega) (by simp; omega) _ rfl ?_; intro g cap w2 ho2 hg2 hat2 hlt2; have d0 : w2.frozen? ⟨sb, 0, none⟩ = false := ((HB.out.alloc _).grown hg2 (blk_apart HO.out HB.out (by decide))).frozen 0; have d1 : ∃ u, w2.cell? ⟨sb, 0, none⟩ = some u := ⟨_, ((HB.out.alloc _).grown hg2 (blk_apart HO.out HB.out (by decide))).cell 0⟩; obtain ⟨u1, d1⟩ := d1))
    go_ret
    have hB2 := ((HB.out.alloc (.cells #[.int .i64 (i : Int)] 3)).grown hg2 (blk_apart HO.out HB.out (by decide))).set_ 0 (.slice (some ⟨g, 0, none⟩) (l.length + 1) cap)
    have hA2 := ((HA.out.alloc (.cells #[.int .i64 (i : Int)] 3)).grown hg2 H.out.far).far (p := ⟨sb, 0, none⟩) hne.symm (.slice (some ⟨g, 0, none⟩) (l.length + 1) cap)
    have hgs : g ≠ sb := fun e => blk_apart ho2 ((HB.out.alloc (.cells #[.int .i64 (i : Int)] 3)).grown hg2 (blk_apart HO.out HB.out (by decide))) (by decide) (by rw [e]; rfl)
    refine ⟨ret_bool rfl, .slice (some ⟨g, 0, none⟩) (l.length + 1) cap, ⟨hB2, ⟨ats.set i l.length, by rw [List.length_set]; exact HAL.out, hA2, ?_⟩, ?_, H.out.lo, ?_⟩, ?_, ?_⟩
    · intro j x hj
      rcases Nat.lt_or_ge j l.length with hlt | hge
      · rw [List.getElem?_append_left hlt] at hj
        have hx := HAT.out j x hj
        have hxi : i ≠ x := fun e => HM.out (by rw [e]; exact List.mem_of_getElem? hj)
        exact ⟨hx.1, by rw [List.getElem?_set_ne hxi]; exact hx.2⟩
      · rw [List.getElem?_append_right hge] at hj
        have hj0 : j - l.length = 0 := by
          have := (List.getElem?_eq_some_iff.1 hj).1
          simp at this
          omega
        rw [hj0] at hj
        simp only [List.getElem?_cons_zero, Option.some.injEq] at hj
        subst hj
        have hjl : j = l.length := by omega
        subst hjl
        exact ⟨hi, by rw [List.getElem?_set_self (by rw [HAL.out]; exact hi)]⟩
    · have := own_kept ho2 (Kept.setCell (w := w2) ⟨sb, 0, none⟩ (.slice (some ⟨g, 0, none⟩) (l.length + 1) cap)) (fun b hb hm => by simp only [Value.ownBlock, Option.some.injEq] at hb; rw [List.mem_singleton] at hm; exact hgs (by rw [hb, hm]))
      simpa [natVals] using this
    · rcases hat2 with e | e
      · intro e2
        exact H.out.far (by rw [e, e2]; rfl)
      · intro e2
        simp only [Value.ownBlock, Option.some.injEq] at e2
        have h1 := HA.out.lt
        have h2 : (w1.alloc (.cells #[.int .i64 (i : Int)] 3)).heap.size = w1.heap.size + 1 := by simp
        have h3 : g = (w1.alloc (.cells #[.int .i64 (i : Int)] 3)).heap.size := e
        omega
    · exact ((hk1.trans ((Kept.alloc (L := []) (.cells #[.int .i64 (i : Int)] 3)).trans (Kept.of_grown' hg2))).trans (Kept.setCell ⟨sb, 0, none⟩ (.slice (some ⟨g, 0, none⟩) (l.length + 1) cap))).more (by intro k hk; simp at hk ⊢; rcases hk with h | h | h; exact .inl (.inr (.inl h)); exact .inl (.inr (.inr h)); exact .inl (.inl h))
    · rcases hat2 with e | e
      · exact .inl (by rw [e]; rfl)
      · exact .inr ⟨g, by rw [e]; have := hk1.size; simp; omega, rfl⟩
end Go.Proofs.Yteiggbbljgkloaa
/- sparse.Set: Clear. -/
namespace Go.Proofs.Yteiggbbljgkloaa
open Go.RowKit Go.Proofs.Yteiggbbljgkloaa.Mach

theorem Kept.setCells (g : Nat) : ∀ (vs : List Value) (o : Nat) (w : World), Kept w (w.setCells g o vs) [g]
  | [], _, _ => Kept.refl
  | v :: vs, o, w => ((Kept.setCell (w := w) ⟨g, o, none⟩ v).trans (Kept.setCells g vs (o + 1) (w.setCell ⟨g, o, none⟩ v))).more (by simp)
theorem Blk.setCells (g : Nat) (t : TypeId) : ∀ (vs : List Value) (o : Nat) (w : World) (cs : List Value), Blk w g t cs → ∃ cs', cs'.length = cs.length ∧ Blk (w.setCells g o vs) g t cs'
  | [], _, _, cs, h => ⟨cs, rfl, h⟩
  | v :: vs, o, w, cs, h => by
    obtain ⟨cs', h1, h2⟩ := Blk.setCells g t vs (o + 1) (w.setCell ⟨g, o, none⟩ v) _ (h.set_ o v)
    exact ⟨cs', by rw [h1]; simp, h2⟩

set_option maxRecDepth 100000 in
set_option maxHeartbeats 2000000 in
theorem setClear_any (base sb ab N : Nat) (LV : Value) (l : List Nat) (w : World) (h : SetM w base sb ab LV N l) :
    Calls Try.prog 37 #[.pointer (some ⟨sb, 0, none⟩)] w fun e w' => e = .returned (.tuple #[]) ∧
      ∃ LV', SetM w' base sb ab LV' N [] ∧ Kept w w' (sb :: LV.ownBlock.toList) ∧ LV'.ownBlock = LV.ownBlock := by
  have H := Lib.hid h
  rcases h.own with ⟨hlen, ⟨rfl, hn⟩ | ⟨g, c, cur, rfl, hg, hh, hnc, hc, hcs, htake⟩⟩
  · have c0 : w.cell? ⟨sb, 0, none⟩ = some (.slice none 0 0) := h.blk.cell 0
    have c3 := h.blk.lt
    have c4 := h.blk.frozen 0
    have hcl : ∀ ty, (Builtin.clear_ #[25] ty #[.slice none 0 0]).run Try.prog w = .ok (.tuple #[]) w := fun ty => by simp [Builtin.clear_, run_underlying Try.underlying25]
    clear h
    go_enter Try.func37, Try.ntmps37
    go_wp2_with (simp only [hcl])
    go_end0
    have kk : Kept w (w.setCell ⟨sb, 0, none⟩ (.slice none 0 0)) [sb] := Kept.setCell _ _
    refine ⟨rfl, .slice none 0 0, ⟨H.out.blk.set_ 0 _, ?_, World.ownsRow_nil _ _ _ _, H.out.lo, by simp [Value.ownBlock]⟩, kk.more (by simp), rfl⟩
    obtain ⟨ats, a1, a2, a3⟩ := H.out.at_
    exact ⟨ats, a1, a2.kept kk (by rw [List.mem_singleton]; exact (H.out.blk.ne_ a2 (by decide)).symm), by simp⟩
  · have c0 : w.cell? ⟨sb, 0, none⟩ = some (.slice (some ⟨g, 0, none⟩) l.length c) := h.blk.cell 0
    have hsl := h.size
    have hgs : g ≠ sb := fun e => blk_apart h.own h.blk (by decide) (by rw [e]; rfl)
    have hga : g ≠ ab := fun e => h.far (by rw [e]; rfl)
    have hB : Blk w g 3 cur.toList := hh
    obtain ⟨w1, hcl, hk1, cs', hcs', hb1⟩ : ∃ w1, (∀ ty, (Builtin.clear_ #[25] ty #[.slice (some ⟨g, 0, none⟩) l.length c]).run Try.prog w = .ok (.tuple #[]) w1) ∧ Kept w w1 [g] ∧ ∃ cs', cs'.length = cur.toList.length ∧ Blk w1 g 3 cs' := by
      by_cases hz : l.length = 0
      · refine ⟨w, fun ty => ?_, Kept.refl, _, rfl, hB⟩
        rw [hz]
        simp [Builtin.clear_, run_underlying Try.underlying25]
      · refine ⟨w.setCells g 0 (List.replicate l.length (.int .i64 0)), fun ty => ?_, Kept.setCells g _ _ _, Blk.setCells g _ _ _ _ _ hB⟩
        have hl : ∀ j, j < l.length → j < cur.toList.length := fun j hj => by rw [Array.length_toList]; omega
        exact Lib.run_clear_slice w 25 3 ty (.int .i64 0) Try.underlying25 (fun w => by kernel_rfl) rfl rfl g 0 l.length c (by omega) (fun j hj => by rw [Nat.zero_add, hB.cell, List.getElem?_eq_getElem (hl j hj)]; rfl) (fun j hj => hB.frozen _)
    have hb2 := H.out.blk.kept hk1 (by rw [List.mem_singleton]; exact hgs.symm)
    have c1 : w1.cell? ⟨sb, 0, none⟩ = some (.slice (some ⟨g, 0, none⟩) l.length c) := hb2.cell 0
    have c3 := hb2.lt
    have c4 := hb2.frozen 0
    have HK1 := Lib.hid hk1
    have HB1 := Lib.hid hb1
    have HB2 := Lib.hid hb2
    have HC := Lib.hid hcs'
    have hc0 : (0 : Int) ≤ (c : Int) := by omega
    clear h hB hh hk1 hb1 hb2 hcs' htake
    go_enter Try.func37, Try.ntmps37
    go_wp2_with (simp only [hcl])
    go_end0
    have kk := (HK1.out.trans (Kept.setCell (w := w1) ⟨sb, 0, none⟩ (.slice (some ⟨g, 0, none⟩) 0 c))).more (M := [sb, g]) (by intro k hk; simp at hk ⊢; rcases hk with hk | hk; exact .inl (.inr hk); exact .inl (.inl hk))
    refine ⟨rfl, .slice (some ⟨g, 0, none⟩) 0 c, ⟨HB2.out.set_ 0 _, ?_, ?_, H.out.lo, ?_⟩, kk, rfl⟩
    · obtain ⟨ats, a1, a2, a3⟩ := H.out.at_
      refine ⟨ats, a1, a2.kept kk ?_, by simp⟩
      have := H.out.blk.ne_ a2 (by decide)
      simp only [List.mem_cons, List.not_mem_nil, or_false, not_or]
      exact ⟨this.symm, hga.symm⟩
    · refine ⟨rfl, .inr ⟨g, c, cs'.toArray, rfl, hg, HB1.out.far (p := ⟨sb, 0, none⟩) hgs _, Nat.zero_le _, hc, ?_, rfl⟩⟩
      rw [List.size_toArray, HC.out, Array.length_toList]; exact hcs
    · intro e
      simp only [Value.ownBlock, Option.some.injEq] at e
      exact hga e.symm
end Go.Proofs.Yteiggbbljgkloaa
