/- runes.class -/
import Derived.Test.YtgljhhlnnedmaaaDoorSortR
import Derived.Test.YtgljhhlnnedmaaaDoorRunesPure
import Derived.BigQuiet
import Derived.Deep.QuietTactic

namespace Go.Proofs.YtgljhhlnnedmaaaDoor
open Go.RowKit

/-- The two parts of a range, within the domain. -/
def part1 (x : Int × Int) : List (Int × Int) := if x.1 ≤ min x.2 55295 then [(x.1, min x.2 55295)] else []
def part2 (x : Int × Int) : List (Int × Int) := if max x.1 57344 ≤ x.2 then [(max x.1 57344, x.2)] else []
def splitR (l : List (Int × Int)) : List (Int × Int) := l.flatMap fun x => part1 x ++ part2 x
def inR (x : Int × Int) : Prop := 0 ≤ x.1 ∧ x.1 ≤ x.2 ∧ x.2 ≤ 1114111

/-- A range laid behind ranges that rise. -/
def mstep (out : List (Int × Int)) (x : Int × Int) : List (Int × Int) :=
  match out.getLast? with
  | some y => if x.1 ≤ y.2 + 1 then out.dropLast ++ [(y.1, max y.2 x.2)] else out ++ [x]
  | none => [x]
def mergeR (s : List (Int × Int)) : List (Int × Int) := s.foldl mstep []
theorem mergeR_snoc (s : List (Int × Int)) (x : Int × Int) : mergeR (s ++ [x]) = mstep (mergeR s) x := by simp [mergeR]
theorem mstep_nil (x : Int × Int) : mstep [] x = [x] := rfl
theorem mstep_join {o : List (Int × Int)} {x y : Int × Int} (h : x.1 ≤ y.2 + 1) : mstep (o ++ [y]) x = o ++ [(y.1, max y.2 x.2)] := by simp [mstep, h]
theorem mstep_apart {o : List (Int × Int)} {x y : Int × Int} (h : ¬ x.1 ≤ y.2 + 1) : mstep (o ++ [y]) x = o ++ [y] ++ [x] := by
  unfold mstep
  simp only [List.getLast?_append, List.getLast?_singleton, Option.some_or, if_neg h]
/-- Both ends within 0 to MaxRune. -/
def inM (x : Int × Int) : Prop := 0 ≤ x.1 ∧ x.1 ≤ 1114111 ∧ 0 ≤ x.2 ∧ x.2 ≤ 1114111
theorem mstep_bd {o : List (Int × Int)} {x : Int × Int} (ho : ∀ y ∈ o, inM y) (hx : inM x) : ∀ y ∈ mstep o x, inM y := by
  rcases List.eq_nil_or_concat o with rfl | ⟨o', y, rfl⟩
  · intro z hz; rw [mstep_nil] at hz; simp at hz; subst hz; exact hx
  · simp only [List.concat_eq_append] at *
    by_cases h : x.1 ≤ y.2 + 1
    · rw [mstep_join h]
      intro z hz
      rw [List.mem_append] at hz
      rcases hz with hz | hz
      · exact ho z (by simp [hz])
      · simp at hz
        subst hz
        have := ho y (by simp)
        unfold inM at *
        simp only []
        omega
    · rw [mstep_apart h]
      intro z hz
      rw [List.mem_append] at hz
      rcases hz with hz | hz
      · exact ho z hz
      · simp at hz; subst hz; exact hx
theorem mergeR_bd : ∀ (s o : List (Int × Int)), (∀ y ∈ o, inM y) → (∀ x ∈ s, inM x) → ∀ y ∈ s.foldl mstep o, inM y
  | [], _, ho, _ => ho
  | x :: s, o, ho, hs => mergeR_bd s (mstep o x) (mstep_bd ho (hs x (by simp))) (fun y hy => hs y (by simp [hy]))
theorem mstep_len (o : List (Int × Int)) (x : Int × Int) : (mstep o x).length ≤ o.length + 1 := by
  rcases List.eq_nil_or_concat o with rfl | ⟨o', y, rfl⟩
  · simp [mstep_nil]
  · simp only [List.concat_eq_append]
    by_cases h : x.1 ≤ y.2 + 1
    · rw [mstep_join h]; simp
    · rw [mstep_apart h]; simp
theorem mergeR_len : ∀ (s o : List (Int × Int)), (s.foldl mstep o).length ≤ o.length + s.length
  | [], o => by simp
  | x :: s, o => by
    have h1 := mergeR_len s (mstep o x)
    have h2 := mstep_len o x
    simp only [List.foldl_cons, List.length_cons]
    omega
theorem splitR_bd {l : List (Int × Int)} (hl : ∀ x ∈ l, inR x) : ∀ y ∈ splitR l, inM y := by
  intro y hy
  simp only [splitR, List.mem_flatMap, List.mem_append] at hy
  obtain ⟨x, hx, hy⟩ := hy
  have h := hl x hx
  unfold inR at h
  unfold inM
  rcases hy with hy | hy
  · unfold part1 at hy
    split at hy
    · simp at hy; subst hy; simp only []; omega
    · simp at hy
  · unfold part2 at hy
    split at hy
    · simp at hy; subst hy; simp only []; omega
    · simp at hy

theorem flat_set2 (o : List (Int × Int)) (y1 y2 z : Int) : (flat (o ++ [(y1, y2)])).set (o.length * 2 + 1) (.int .i64 z) = flat (o ++ [(y1, z)]) := by
  rw [flat_append, flat_append, List.set_append_right _ _ (by rw [flat_length]; omega), flat_length, show o.length * 2 + 1 - o.length * 2 = 1 from by omega]
  rfl

theorem sort_own {base n cap : Nat} {A : Option Addr} {l : List (Int × Int)} (w : World) (hl : l.length = n) (hn : n ≤ 4194304) (h : w.ownsRow base 55 2 (.slice A n cap) n (flat l)) :
    Calls Tryd.prog 46 #[.slice A n cap, .func (.func 47) #[] #[]] w fun e w' => e = .returned (.tuple #[]) ∧
      ∃ l', l'.Perm l ∧ l'.Pairwise (fun x y => x.1 ≤ y.1) ∧ w'.ownsRow base 55 2 (.slice A n cap) n (flat l') ∧ w.grownBy w' (Value.slice A n cap).ownBlock := by
  rcases Nat.eq_zero_or_pos n with h0 | h0
  · subst h0
    obtain rfl : l = [] := List.eq_nil_of_length_eq_zero hl
    refine (sortR_none A cap _ w).mono fun e w' ⟨he, hw⟩ => ?_
    subst hw
    exact ⟨he, [], .refl _, .nil, h, World.grownBy.refl _ _⟩
  · obtain ⟨g, rfl, _⟩ := own_form h h0
    exact sortR_any w hl hn h

theorem info_range : (Tryd.prog.info? 55).map (fun i => (i.zero, i.size, i.bytes)) = some (some (.agg #[.int .i64 0, .int .i64 0]), 2, 16) := by kernel_rfl
theorem two_index0 (a b c d : Value) (w : World) : (Instr.index 69 (.agg #[a, b, c, d]) (.int .i64 0)).run Tryd.prog w = .ok (.agg #[a, b]) w := by kernel_rfl
theorem two_index1 (a b c d : Value) (w : World) : (Instr.index 69 (.agg #[a, b, c, d]) (.int .i64 1)).run Tryd.prog w = .ok (.agg #[c, d]) w := by kernel_rfl
theorem splitR_len (l : List (Int × Int)) : (splitR l).length ≤ 2 * l.length := by
  induction l with
  | nil => simp [splitR]
  | cons x l ih =>
    simp only [splitR, List.flatMap_cons, List.length_append, List.length_cons] at *
    have h1 : (part1 x).length ≤ 1 := by unfold part1; split <;> simp
    have h2 : (part2 x).length ≤ 1 := by unfold part2; split <;> simp
    omega
theorem splitR_snoc (l : List (Int × Int)) (x : Int × Int) : splitR (l ++ [x]) = splitR l ++ (part1 x ++ part2 x) := by simp [splitR]
theorem cell_two_new (w : World) (x y : Value) (t : TypeId) : ∀ j u, [x, y][j]? = some u → (w.alloc (.cells #[x, y] t)).cell? ((⟨w.heap.size, 0, none⟩ : Addr).add j) = some u := by
  intro j u hj
  rw [add_lit, Nat.zero_add]
  exact ((Blk.new w t [x, y]).cell j).trans hj

def parts (x : Int × Int) (j : Nat) : List (Int × Int) := if j = 0 then [] else if j = 1 then part1 x else part1 x ++ part2 x
theorem parts_len (x : Int × Int) (j : Nat) : (parts x j).length ≤ 2 := by
  have h1 : (part1 x).length ≤ 1 := by unfold part1; split <;> simp
  have h2 : (part2 x).length ≤ 1 := by unfold part2; split <;> simp
  unfold parts
  split
  · simp
  split
  · omega
  · simp only [List.length_append]; omega

/-- What class leaves: the ranges' parts, sorted, joined. -/
def ClassPost (l : List (Int × Int)) (B : Nat) (w : World) (e : Ending) (w' : World) : Prop :=
  ∃ S : List (Int × Int), S.Perm (splitR l) ∧ S.Pairwise (fun x y => x.1 ≤ y.1) ∧ Below B w w' ∧
    if 5000 < (mergeR S).length then e = .returned (.tuple #[.slice none 0 0, .int .i64 3])
    else ∃ v, e = .returned (.tuple #[v, .int .i64 0]) ∧ w'.ownsRow B 55 2 v (mergeR S).length (flat (mergeR S))

set_option maxRecDepth 100000 in
set_option maxHeartbeats 2000000 in
theorem class_any (A : Option Addr) (n c : Nat) (l : List (Int × Int)) (w : World) (hr : Reads w w.heap.size 2 A n c (flat l)) (hl : ∀ x ∈ l, inR x) (hn : n ≤ 1048576) :
    Calls Tryd.prog 40 #[.slice A n c] w (ClassPost l w.heap.size w) := by
  obtain ⟨i0, hi, hz0, hz1, hz2⟩ := info_parts info_range
  obtain ⟨B, hB⟩ : ∃ B, B = w.heap.size := ⟨_, rfl⟩
  rw [← hB] at hr
  rw [← hB]
  have hBs : B ≤ w.heap.size := by omega
  have HB := Lib.hid hB
  have hlen : l.length = n := by have := hr.len; rw [flat_length] at this; omega
  have HLEN := Lib.hid hlen
  have HL := Lib.hid hl
  have hnc := hr.le
  have hcap := hr.cap
  have HR := Lib.hid hr
  clear hB hlen hl hr
  go_enter Tryd.func40, Tryd.ntmps40
  go_wp2_with fail
  go_loopw [4, 15] (fun v p wr => ∃ i : Nat, i ≤ n ∧ p = .int .i64 i ∧ wr.ownsRow B 55 2 v (splitR (l.take i)).length (flat (splitR (l.take i))) ∧ Below B w wr) (fun _ p _ => n - (intOf p).toNat)
  case atStart => exact ⟨0, Nat.zero_le _, rfl, World.ownsRow_nil _ _ _ _, Below.refl _ _⟩
  case round =>
    obtain ⟨i, hi1, rfl, hov, hbel⟩ := hrel
    have hszr : B ≤ wr.heap.size := by have := hbel.size; omega
    by_cases hlt : i < n
    · obtain ⟨x, hx⟩ : ∃ x, l[i]? = some x := ⟨_, List.getElem?_eq_getElem (by have := HLEN.out; omega)⟩
      obtain ⟨b, off, rfl, hb, hcell⟩ := (HR.out.below hbel).at_ (by omega)
      have hc1 : wr.cell? ⟨b, off + i * 2, none⟩ = some (.int .i64 x.1) := hcell _ _ (flat_get l i x hx).1
      have hc2 : wr.cell? ⟨b, off + i * 2 + 1, none⟩ = some (.int .i64 x.2) := by rw [Nat.add_assoc]; exact hcell _ _ (flat_get l i x hx).2
      have hxr := HL.out x (List.mem_of_getElem? hx)
      have HX := Lib.hid hx
      obtain ⟨x1, x2⟩ := x
      have hx1 : 0 ≤ x1 := hxr.1
      have hx2 : x1 ≤ x2 := hxr.2.1
      have hx3 : x2 ≤ 1114111 := hxr.2.2
      clear hcell hx hxr
      go_wp2_with fail
      have hov1 := hov.alloc (.cells #[.int .i64 x1, .int .i64 x2] 55)
      have hbe1 := hbel.alloc hszr (.cells #[.int .i64 x1, .int .i64 x2] 55)
      have hxl := splitR_len (l.take i)
      rw [List.length_take] at hxl
      obtain ⟨pre, hpre⟩ : ∃ pre, pre = splitR (l.take i) := ⟨_, rfl⟩
      rw [← hpre] at hov1 hxl
      have HPRE := Lib.hid hpre
      have hpl : pre.length ≤ 2097150 := by have := HLEN.out; omega
      clear hov hbel hc1 hc2 hpre hxl
      have ix0 := two_index0 (.int .i64 x1) (.int .i64 (min x2 55295)) (.int .i64 (max x1 57344)) (.int .i64 x2)
      have ix1 := two_index1 (.int .i64 x1) (.int .i64 (min x2 55295)) (.int .i64 (max x1 57344)) (.int .i64 x2)
      generalize wr.alloc (.cells #[.int .i64 x1, .int .i64 x2] 55) = wr1 at *
      go_loopw [4, 32] (fun v p wq => ∃ j : Nat, j ≤ 2 ∧ p = .int .i64 j ∧ wq.ownsRow B 55 2 v (pre ++ parts (x1, x2) j).length (flat (pre ++ parts (x1, x2) j)) ∧ Below B w wq) (fun _ p _ => 2 - (intOf p).toNat)
      case atStart => exact ⟨0, by omega, rfl, by simpa [parts] using hov1, hbe1⟩
      case round =>
        obtain ⟨j, hj, rfl, hov, hbq⟩ := hrel
        have hszq : B ≤ wr.heap.size := by have := hbq.size; omega
        have hql := parts_len (x1, x2) j
        obtain ⟨q, hq⟩ : ∃ q, q = pre ++ parts (x1, x2) j := ⟨_, rfl⟩
        rw [← hq] at hov
        have hqn : q.length ≤ 2097152 := by rw [hq, List.length_append]; omega
        have HQ := Lib.hid hq
        clear hq hql
        rcases (show j = 0 ∨ j = 1 ∨ j = 2 from by omega) with rfl | rfl | rfl
        · clear ix1
          by_cases hp : x1 ≤ min x2 55295
          · have hpart : part1 (x1, x2) = [(x1, min x2 55295)] := by unfold part1; rw [if_pos hp]
            have HP := Lib.hid hpart
            clear hpart
            go_wp2_with (at_builtin; refine wpList_append_keep _ rfl (.tmp 40) (.tmp 42) 42 rfl B 55 i0 _ 2 16 Tryd.underlying42 hi hz0 hz1 hz2 rfl (by decide) u4 q.length (flat q) rfl ((hov.alloc _).alloc _) ⟨wr.heap.size + 1, 0, none⟩ 1 1 [.int .i64 (x1), .int .i64 (min x2 55295)] rfl rfl (by simpa using cell_two_new (wr.alloc (.cells #[.int .i64 (x1), .int .i64 (min x2 55295)] 55)) (.int .i64 (x1)) (.int .i64 (min x2 55295)) 55) (by simp [Value.oneCell']) (by unfold maxLen; omega) (by omega) (by simp; omega) ?_; intro v2 w2 ha2)
            go_roundw
            case rel =>
              have hb2 := ((hbq.alloc hszq (.cells #[.int .i64 (x1), .int .i64 (min x2 55295)] 55)).alloc (by simp; omega) (.cells #[.int .i64 (x1), .int .i64 (min x2 55295)] 55)).grown ha2.grown (by simp; omega) (fun k hk => (hov.lt k hk).1)
              refine ⟨1, by omega, by go_num, ?_, hb2⟩
              have := ha2.own
              have e : parts (x1, x2) 1 = parts (x1, x2) 0 ++ [(x1, min x2 55295)] := by simp [parts, HP.out]
              rw [e, ← List.append_assoc, ← HQ.out]
              simpa [flat_append, flat, encR] using this
            case measure => simp [intOf]
          · have hpart : part1 (x1, x2) = [] := by unfold part1; rw [if_neg hp]
            have HP := Lib.hid hpart
            clear hpart
            go_wp2_with fail
            go_roundw
            case rel =>
              refine ⟨1, by omega, by go_num, ?_, hbq.alloc hszq _⟩
              have e : parts (x1, x2) 1 = parts (x1, x2) 0 := by simp [parts, HP.out]
              rw [e, ← HQ.out]
              exact hov.alloc _
            case measure => simp [intOf]
        · clear ix0
          by_cases hp : max x1 57344 ≤ x2
          · have hpart : part2 (x1, x2) = [(max x1 57344, x2)] := by unfold part2; rw [if_pos hp]
            have HP := Lib.hid hpart
            clear hpart
            go_wp2_with (at_builtin; refine wpList_append_keep _ rfl (.tmp 40) (.tmp 42) 42 rfl B 55 i0 _ 2 16 Tryd.underlying42 hi hz0 hz1 hz2 rfl (by decide) u4 q.length (flat q) rfl ((hov.alloc _).alloc _) ⟨wr.heap.size + 1, 0, none⟩ 1 1 [.int .i64 (max x1 57344), .int .i64 (x2)] rfl rfl (by simpa using cell_two_new (wr.alloc (.cells #[.int .i64 (max x1 57344), .int .i64 (x2)] 55)) (.int .i64 (max x1 57344)) (.int .i64 (x2)) 55) (by simp [Value.oneCell']) (by unfold maxLen; omega) (by omega) (by simp; omega) ?_; intro v2 w2 ha2)
            go_roundw
            case rel =>
              have hb2 := ((hbq.alloc hszq (.cells #[.int .i64 (max x1 57344), .int .i64 (x2)] 55)).alloc (by simp; omega) (.cells #[.int .i64 (max x1 57344), .int .i64 (x2)] 55)).grown ha2.grown (by simp; omega) (fun k hk => (hov.lt k hk).1)
              refine ⟨2, by omega, by go_num, ?_, hb2⟩
              have := ha2.own
              have e : parts (x1, x2) 2 = parts (x1, x2) 1 ++ [(max x1 57344, x2)] := by simp [parts, HP.out]
              rw [e, ← List.append_assoc, ← HQ.out]
              simpa [flat_append, flat, encR] using this
            case measure => simp [intOf]
          · have hpart : part2 (x1, x2) = [] := by unfold part2; rw [if_neg hp]
            have HP := Lib.hid hpart
            clear hpart
            go_wp2_with fail
            go_roundw
            case rel =>
              refine ⟨2, by omega, by go_num, ?_, hbq.alloc hszq _⟩
              have e : parts (x1, x2) 2 = parts (x1, x2) 1 := by simp [parts, HP.out]
              rw [e, ← HQ.out]
              exact hov.alloc _
            case measure => simp [intOf]
        · go_wp2_with fail
          go_roundw
          case rel =>
            refine ⟨i + 1, by omega, by go_num, ?_, hbq⟩
            have e : q = splitR (l.take (i + 1)) := by
              rw [HQ.out, HPRE.out, List.take_add_one, HX.out]
              simp [splitR, parts]
            rw [← e]
            exact hov
          case measure => simp [intOf]; omega
    · obtain rfl : n = i := by omega
      clear hlt hi1
      rw [List.take_of_length_le (by have := HLEN.out; omega)] at hov
      have hsl := splitR_len l
      have hsb := splitR_bd HL.out
      obtain ⟨sp, hsp⟩ : ∃ sp, sp = splitR l := ⟨_, rfl⟩
      rw [← hsp] at hov hsl hsb
      obtain ⟨A4, c4, hu4⟩ := own_shape hov
      subst hu4
      have HSP := Lib.hid hsp
      have hm2 : sp.length ≤ 2097152 := by have := HLEN.out; omega
      have hso := sort_own wr rfl (by omega) hov
      have HSO := Lib.hid hso
      obtain ⟨m, hm⟩ : ∃ m, m = sp.length := ⟨_, rfl⟩
      have HSB := Lib.hid hsb
      rw [← hm] at hov hm2 HSO
      rw [← hm]
      have HM := Lib.hid hm
      clear hsp hsl hso hsb hm
      go_wp2_with fail
      refine HSO.out.mono ?_
      rintro e w2 ⟨rfl, S, hperm, hsort, hoS, hgr⟩
      have hb2 : Below B w w2 := hbel.grown hgr hszr (fun k hk => (hov.lt k hk).1)
      have hSl : S.length = m := by rw [hperm.length_eq]; exact HM.out.symm
      have hSb : ∀ x ∈ S, inM x := fun x hx => HSB.out x (hperm.mem_iff.1 hx)
      have HPERM := Lib.hid hperm
      have HSORT := Lib.hid hsort
      have HSL := Lib.hid hSl
      have HSBD := Lib.hid hSb
      clear hov hbel hgr hperm hsort hSl hSb HSO hszr
      go_wp2_with fail
      go_loopw [9, 50] (fun v p wr => ∃ i : Nat, i ≤ m ∧ p = .int .i64 i ∧ wr.ownsRow B 55 2 v (mergeR (S.take i)).length (flat (mergeR (S.take i))) ∧ wr.ownsRow B 55 2 (.slice A4 m c4) m (flat S) ∧ Apart (.slice A4 m c4) v ∧ Below B w wr) (fun _ p _ => m - (intOf p).toNat)
      case atStart => exact ⟨0, Nat.zero_le _, rfl, World.ownsRow_nil _ _ _ _, hoS, apart_symm (.inl rfl), hb2⟩
      case round =>
        obtain ⟨i, hi1, rfl, hov, hoA, hap, hbel⟩ := hrel
        have hszr : B ≤ wr.heap.size := by have := hbel.size; omega
        have hobd := mergeR_bd (S.take i) [] (by simp) (fun x hx => HSBD.out x (List.mem_of_mem_take hx))
        have holn := mergeR_len (S.take i) []
        simp only [List.length_nil, List.length_take, Nat.zero_add] at holn
        obtain ⟨out, hout⟩ : ∃ out, out = mergeR (S.take i) := ⟨_, rfl⟩
        change ∀ y ∈ mergeR (S.take i), inM y at hobd
        change (mergeR (S.take i)).length ≤ _ at holn
        rw [← hout] at hov hobd holn
        have HOUT := Lib.hid hout
        obtain ⟨Ao, co, hu9⟩ := own_shape hov
        subst hu9
        clear hout
        by_cases hlt : i < m
        · obtain ⟨x, hx⟩ : ∃ x, S[i]? = some x := ⟨_, List.getElem?_eq_getElem (by have := HSL.out; omega)⟩
          obtain ⟨ga, rfl, _, _, _⟩ := own_form hoA (by omega)
          have hxb := HSBD.out x (List.mem_of_getElem? hx)
          have hc1 : wr.cell? ⟨ga, i * 2, none⟩ = some (.int .i64 x.1) := by rw [hoA.cellAt _ (by omega)]; exact (flat_get S i x hx).1
          have hc2 : wr.cell? ⟨ga, i * 2 + 1, none⟩ = some (.int .i64 x.2) := by rw [hoA.cellAt _ (by omega)]; exact (flat_get S i x hx).2
          have HX := Lib.hid hx
          obtain ⟨x1, x2⟩ := x
          have hx1 : 0 ≤ x1 := hxb.1
          have hx2 : x1 ≤ 1114111 := hxb.2.1
          have hx3 : 0 ≤ x2 := hxb.2.2.1
          have hx4 : x2 ≤ 1114111 := hxb.2.2.2
          clear hx hxb
          have hov1 := hov.alloc (.cells #[.int .i64 x1, .int .i64 x2] 55)
          have hoA1 := hoA.alloc (.cells #[.int .i64 x1, .int .i64 x2] 55)
          have hbel1 := hbel.alloc hszr (.cells #[.int .i64 x1, .int .i64 x2] 55)
          have hsz1 : B ≤ (wr.alloc (.cells #[.int .i64 x1, .int .i64 x2] 55)).heap.size := by simp; omega
          have hxc1 : (wr.alloc (.cells #[.int .i64 x1, .int .i64 x2] 55)).cell? ⟨wr.heap.size, 0, none⟩ = some (.int .i64 x1) := by go_simp
          have hxc2 : (wr.alloc (.cells #[.int .i64 x1, .int .i64 x2] 55)).cell? ⟨wr.heap.size, 1, none⟩ = some (.int .i64 x2) := by go_simp
          rcases List.eq_nil_or_concat out with hnil | ⟨o, y, hcon⟩
          · subst hnil
            simp only [List.length_nil] at hov1 ⊢
            go_wp2_with fail
            go_quiet (fail)
            have hov1 := own_drewN hov1 nq
            have hoA1 := own_drewN hoA1 nq
            have hbel1 := bdrewN hbel1 nq
            have hsz1 : B ≤ ((wr.alloc (.cells #[.int .i64 x1, .int .i64 x2] 55)).drewN nq).heap.size := hsz1
            have hxc1 : ((wr.alloc (.cells #[.int .i64 x1, .int .i64 x2] 55)).drewN nq).cell? ⟨wr.heap.size, 0, none⟩ = some (.int .i64 x1) := hxc1
            have hxc2 : ((wr.alloc (.cells #[.int .i64 x1, .int .i64 x2] 55)).drewN nq).cell? ⟨wr.heap.size, 1, none⟩ = some (.int .i64 x2) := hxc2
            clear hov hoA hbel hc1 hc2
            generalize (wr.alloc (.cells #[.int .i64 x1, .int .i64 x2] 55)).drewN nq = W1 at *
            generalize wr.heap.size = X at *
            have HB1 := Lib.hid hbel1
            have HA1 := Lib.hid hoA1
            go_wp2_with (at_builtin; refine wpList_append_keep _ rfl (.tmp 84) (.tmp 86) 42 rfl B 55 i0 _ 2 16 Tryd.underlying42 hi hz0 hz1 hz2 rfl (by decide) _ _ _ rfl (hov1.alloc _) ⟨W1.heap.size, 0, none⟩ 1 1 [.int .i64 x1, .int .i64 x2] rfl rfl (cell_two_new _ _ _ _) (by simp [Value.oneCell']) (by unfold maxLen; omega) (by omega) (by simp; omega) ?_; intro v2 w3 ha2)
            go_roundw
            case rel =>
              have hb3 := (HB1.out.alloc hsz1 (.cells #[.int .i64 x1, .int .i64 x2] 55)).grown ha2.grown (by simp; omega) (fun k hk => (hov1.lt k hk).1)
              have hoA3 := ownsRow_kept (HA1.out.alloc (.cells #[.int .i64 x1, .int .i64 x2] 55)) ha2.grown hap
              have hap3 := apart_append hap (HA1.out.alloc (.cells #[.int .i64 x1, .int .i64 x2] 55)) (by rcases ha2.at_ with h | h; exact .inl h; exact .inr ⟨_, Nat.le_refl _, h⟩)
              refine ⟨i + 1, by omega, by go_num, ?_, hoA3, hap3, hb3⟩
              have e : mergeR (S.take (i + 1)) = [] ++ [(x1, x2)] := by
                rw [List.take_add_one, HX.out]
                show mergeR (S.take i ++ [(x1, x2)]) = _
                rw [mergeR_snoc, ← HOUT.out]
                exact mstep_nil _
              rw [e]
              simpa [flat_append, flat, encR] using ha2.own
            case measure => simp [intOf]; omega
          · obtain ⟨y1, y2⟩ := y
            obtain rfl : out = o ++ [(y1, y2)] := by rw [hcon]; simp
            clear hcon
            have hyb := hobd (y1, y2) (by simp)
            have hy1 : 0 ≤ y2 := hyb.2.2.1
            have hy2 : y2 ≤ 1114111 := hyb.2.2.2
            obtain ⟨k, hk⟩ : ∃ k, k = o.length := ⟨_, rfl⟩
            have hk1 : (o ++ [(y1, y2)]).length = k + 1 := by simp [hk]
            rw [hk1] at hov1 holn ⊢
            have hkm : k ≤ 2097152 := by omega
            have HK := Lib.hid hk
            obtain ⟨go, rfl, _, hBgo, _⟩ := own_form hov1 (by omega)
            have hyc : (wr.alloc (.cells #[.int .i64 x1, .int .i64 x2] 55)).cell? ⟨go, k * 2 + 1, none⟩ = some (.int .i64 y2) := by
              rw [hov1.cellAt _ (by omega)]
              exact (flat_get (o ++ [(y1, y2)]) k (y1, y2) (by rw [HK.out]; simp)).2
            clear hyb hk hk1 hobd
            have hd0 : decide ((0 : Int) < (k : Int) + 1) = true := decide_eq_true (by omega)
            have hkw : (k : Int) + 1 - 1 = (k : Int) := by omega
            by_cases hcnd : x1 ≤ y2 + 1
            · have hd1 : decide (x1 ≤ y2 + 1) = true := by simpa using hcnd
              have hfr : (wr.alloc (.cells #[.int .i64 x1, .int .i64 x2] 55)).frozen? ⟨go, k * 2 + 1, none⟩ = false := hov1.frozenAt _
              go_wp2_with fail
              go_quiet (fail)
              have hyc : ((wr.alloc (.cells #[.int .i64 x1, .int .i64 x2] 55)).drewN nq).cell? ⟨go, k * 2 + 1, none⟩ = some (.int .i64 y2) := hyc
              have hfr : ((wr.alloc (.cells #[.int .i64 x1, .int .i64 x2] 55)).drewN nq).frozen? ⟨go, k * 2 + 1, none⟩ = false := hfr
              have hov1 := own_drewN hov1 nq
              have hoA1 := own_drewN hoA1 nq
              have hbel1 := bdrewN hbel1 nq
              have hsz1 : B ≤ ((wr.alloc (.cells #[.int .i64 x1, .int .i64 x2] 55)).drewN nq).heap.size := hsz1
              have hxc1 : ((wr.alloc (.cells #[.int .i64 x1, .int .i64 x2] 55)).drewN nq).cell? ⟨wr.heap.size, 0, none⟩ = some (.int .i64 x1) := hxc1
              have hxc2 : ((wr.alloc (.cells #[.int .i64 x1, .int .i64 x2] 55)).drewN nq).cell? ⟨wr.heap.size, 1, none⟩ = some (.int .i64 x2) := hxc2
              clear hov hoA hbel hc1 hc2
              generalize (wr.alloc (.cells #[.int .i64 x1, .int .i64 x2] 55)).drewN nq = W1 at *
              generalize wr.heap.size = X at *
              go_wp2_with fail
              go_region
              have hst := hov1.stored (k * 2 + 1) (.int .i64 (max y2 x2))
              rw [HK.out, flat_set2] at hst
              have hb3 := hbel1.setCell (p := ⟨go, o.length * 2 + 1, none⟩) hBgo (.int .i64 (max y2 x2))
              have hoA3 := ownsRow_kept (v := .slice (some ⟨go, 0, none⟩) (k + 1) co) hoA1 (by rw [HK.out]; exact hst.2) hap
              rw [← HK.out] at hst hb3 hoA3
              have HST := Lib.hid hst
              have HB3 := Lib.hid hb3
              have HA3 := Lib.hid hoA3
              clear hst hb3 hoA3
              go_wp2_with fail
              go_roundw
              case rel =>
                refine ⟨i + 1, by omega, by go_num, ?_, HA3.out.drew, hap, HB3.out.drew⟩
                have e : mergeR (S.take (i + 1)) = o ++ [(y1, max y2 x2)] := by
                  rw [List.take_add_one, HX.out]
                  show mergeR (S.take i ++ [(x1, x2)]) = _
                  rw [mergeR_snoc, ← HOUT.out]
                  exact mstep_join hcnd
                rw [e, List.length_append, List.length_singleton, ← HK.out]
                exact HST.out.1.drew
              case measure => simp [intOf]; omega
            · have hd1 : decide (x1 ≤ y2 + 1) = false := by simpa using hcnd
              go_wp2_with fail
              go_quiet (fail)
              have hov1 := own_drewN hov1 nq
              have hoA1 := own_drewN hoA1 nq
              have hbel1 := bdrewN hbel1 nq
              have hsz1 : B ≤ ((wr.alloc (.cells #[.int .i64 x1, .int .i64 x2] 55)).drewN nq).heap.size := hsz1
              have hxc1 : ((wr.alloc (.cells #[.int .i64 x1, .int .i64 x2] 55)).drewN nq).cell? ⟨wr.heap.size, 0, none⟩ = some (.int .i64 x1) := hxc1
              have hxc2 : ((wr.alloc (.cells #[.int .i64 x1, .int .i64 x2] 55)).drewN nq).cell? ⟨wr.heap.size, 1, none⟩ = some (.int .i64 x2) := hxc2
              clear hov hoA hbel hc1 hc2 hyc
              generalize (wr.alloc (.cells #[.int .i64 x1, .int .i64 x2] 55)).drewN nq = W1 at *
              generalize wr.heap.size = X at *
              have HB1 := Lib.hid hbel1
              have HA1 := Lib.hid hoA1
              go_wp2_with (at_builtin; refine wpList_append_keep _ rfl (.tmp 84) (.tmp 86) 42 rfl B 55 i0 _ 2 16 Tryd.underlying42 hi hz0 hz1 hz2 rfl (by decide) _ _ _ rfl (hov1.alloc _) ⟨W1.heap.size, 0, none⟩ 1 1 [.int .i64 x1, .int .i64 x2] rfl rfl (cell_two_new _ _ _ _) (by simp [Value.oneCell']) (by unfold maxLen; omega) (by omega) (by simp; omega) ?_; intro v2 w3 ha2)
              go_roundw
              case rel =>
                have hb3 := (HB1.out.alloc hsz1 (.cells #[.int .i64 x1, .int .i64 x2] 55)).grown ha2.grown (by simp; omega) (fun k hk => (hov1.lt k hk).1)
                have hoA3 := ownsRow_kept (HA1.out.alloc (.cells #[.int .i64 x1, .int .i64 x2] 55)) ha2.grown hap
                have hap3 := apart_append hap (HA1.out.alloc (.cells #[.int .i64 x1, .int .i64 x2] 55)) (by rcases ha2.at_ with h | h; exact .inl h; exact .inr ⟨_, Nat.le_refl _, h⟩)
                refine ⟨i + 1, by omega, by go_num, ?_, hoA3, hap3, hb3⟩
                have e : mergeR (S.take (i + 1)) = o ++ [(y1, y2)] ++ [(x1, x2)] := by
                  rw [List.take_add_one, HX.out]
                  show mergeR (S.take i ++ [(x1, x2)]) = _
                  rw [mergeR_snoc, ← HOUT.out]
                  exact mstep_apart (by simp only []; omega)
                rw [e]
                simpa [flat_append, flat, encR, HK.out] using ha2.own
              case measure => simp [intOf]; omega
        · obtain rfl : m = i := by omega
          rw [List.take_of_length_le (by have := HSL.out; omega)] at HOUT
          by_cases hbig : 5000 < out.length
          · go_wp2_with fail
            go_ret2
            refine ⟨S, by rw [← HSP.out]; exact HPERM.out, HSORT.out, hbel, ?_⟩
            rw [← HOUT.out, if_pos (by omega)]
            rfl
          · go_wp2_with fail
            go_ret2
            refine ⟨S, by rw [← HSP.out]; exact HPERM.out, HSORT.out, hbel, ?_⟩
            rw [← HOUT.out, if_neg (by omega)]
            exact ⟨_, rfl, hov⟩
end Go.Proofs.YtgljhhlnnedmaaaDoor
