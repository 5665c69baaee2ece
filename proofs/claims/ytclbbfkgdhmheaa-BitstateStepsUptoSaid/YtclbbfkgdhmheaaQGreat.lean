/- heronlaw05.great, Deep; heronlaw04.Weight, Heavy: how great a tree is. -/
import Derived.Test.YtclbbfkgdhmheaaQTree
import Derived.Test.YtclbbfkgdhmheaaQFlat
import Derived.Handy
import Derived.BigQuiet
import Derived.Deep.QuietTactic
import Derived.Test.YtclbbfkgdhmheaaQSimp
import Derived.Test.YtclbbfkgdhmheaaQRes
import Derived.StillTailTactics
namespace Go.Proofs.Ytclbbfkgdhmheaa
open Go.RowKit Go.Proofs.Ytclbbfkgdhmheaa.Tr

theorem sizes_take {l : List Ta} {i : Nat} {t : Ta} (h : l[i]? = some t) : sizes (trs (l.take (i + 1))) = sizes (trs (l.take i)) + size t.tr := by
  rw [List.take_add_one, h, trs_map, trs_map, List.map_append]
  have : ∀ a b : List Tr, sizes (a ++ b) = sizes a + sizes b := by
    intro a b
    induction a with
    | nil => simp [sizes]
    | cons x a ih => rw [List.cons_append, sizes, sizes, ih]; omega
  rw [this]; simp [sizes]
theorem sizes_take_le (l : List Ta) (i : Nat) : sizes (trs (l.take i)) ≤ sizes (trs l) := by
  have : ∀ a b : List Tr, sizes (a ++ b) = sizes a + sizes b := by
    intro a b
    induction a with
    | nil => simp [sizes]
    | cons x a ih => rw [List.cons_append, sizes, sizes, ih]; omega
  have e : sizes (trs l) = sizes (trs (l.take i)) + sizes (trs (l.drop i)) := by
    rw [trs_map, trs_map, trs_map, ← this, ← List.map_append, List.take_append_drop]
  omega
theorem Ta.tr_size (k : Int) (r : List (Int × Int)) (ra : Option Addr) (rc : Nat) (a : Int) (l : List Ta) (sa : Option Addr) (sc : Nat) (mn mx : Int) (z : Bool) (i : Int) (s : ByteArray) : size (Ta.mk k r ra rc a l sa sc mn mx z i s).tr = sizes (trs l) + 1 := by
  rw [Ta.tr, size]
/-- The cells of a list's member. -/
theorem RdA.node {w : World} {S : Nat → Prop} {b off c : Nat} {l : List Ta} {j : Nat} {t : Ta} (h : RdA w S 9 (some ⟨b, off, none⟩) l.length c (rowT l)) (ht : l[j]? = some t) {q : Nat} (hq : q < 9) : w.cell? ⟨b, off + (j * 9 + q), none⟩ = t.vals[q]? := by
  have hl : j < l.length := (List.getElem?_eq_some_iff.1 ht).1
  obtain ⟨b', off', e, _, hc⟩ := h.2.2.2.2 (by omega)
  simp only [Option.some.injEq, Addr.mk.injEq, and_true] at e
  obtain ⟨rfl, rfl⟩ := e
  have hg := rowT_get l j q t ht hq
  have hv : q < t.vals.length := by rw [Ta.vals_length]; exact hq
  rw [List.getElem?_eq_getElem hv] at hg ⊢
  exact hc _ _ hg

theorem ar_end {q left : Int} {s0 n sz : Nat} (hq : q = max (left - 1 - (s0 : Int)) (-1)) (hsz : sz = n + 1) (hle : s0 ≤ n) (h : q < 0 ∨ s0 = n) : q = max (left - (sz : Int)) (-1) := by omega
theorem ar_great {q left : Int} {s1 s0 d : Nat} (hq : q = max (left - 1 - (s0 : Int)) (-1)) (hs : s1 = s0 + d) (h0 : 0 ≤ q) : max (q - (d : Int)) (-1) = max (left - 1 - (s1 : Int)) (-1) := by omega
set_option maxRecDepth 100000 in
set_option maxHeartbeats 1000000 in
theorem great_any : ∀ (t : Ta) (S : Nat → Prop) (w : World) (left : Int), RT w S t → (∀ b, S b → b < w.heap.size) → 0 ≤ left → left ≤ 4194304 →
    Calls Try.prog 10 #[t.val, .int .i64 left] w fun e w' => e = .returned (.int .i64 (max (left - size t.tr) (-1))) ∧ Below w.heap.size w w' := by
  intro t
  induction t using Ta.ind with
  | h t ih =>
    intro S w left h hS h0 h1
    cases t with
    | mk k r ra rc ast l sa sc mn mx z ix nm =>
      obtain ⟨_, hN, hL⟩ := h.parts
      have hsz := Ta.tr_size k r ra rc ast l sa sc mn mx z ix nm
      have IH := Lib.hid ih
      have HN := Lib.hid hN
      have HL := Lib.hid hL
      have HS := Lib.hid hS
      have HSZ := Lib.hid hsz
      clear ih hL hS hsz h
      simp only [Ta.val, Ta.vals]
      have hb0 : Below w.heap.size w (w.alloc (.cells #[.int .i64 k, .slice ra r.length rc, .int .i64 ast, .slice sa l.length sc, .int .i64 mn, .int .i64 mx, .bool z, .int .i64 ix, .string nm] 25)) := (Below.refl _ _).alloc (Nat.le_refl _) _
      have hbl := Blk.new w 25 [.int .i64 k, .slice ra r.length rc, .int .i64 ast, .slice sa l.length sc, .int .i64 mn, .int .i64 mx, .bool z, .int .i64 ix, .string nm]
      have hsc := hN.1
      have hsc2 := hN.2.1
      have HB0 := Lib.hid hb0
      have HBL := Lib.hid hbl
      clear hb0 hbl hN
      go_enter Try.func10, Try.ntmps10
      go_wp2_with fail
      generalize w.alloc (.cells #[.int .i64 k, .slice ra r.length rc, .int .i64 ast, .slice sa l.length sc, .int .i64 mn, .int .i64 mx, .bool z, .int .i64 ix, .string nm] 25) = w1 at *
      go_loopw [1, 5] (fun lv iv wr => ∃ (i : Nat) (q : Int), i ≤ l.length ∧ iv = .int .i64 (i : Int) ∧ lv = .int .i64 q ∧ q = max (left - 1 - sizes (trs (l.take i))) (-1) ∧ Below w1.heap.size w1 wr) (fun _ iv _ => l.length - (intOf iv).toNat)
      case atStart => exact ⟨0, left - 1, Nat.zero_le _, rfl, rfl, by simp [trs, sizes]; omega, Below.refl _ _⟩
      case round =>
        obtain ⟨i, q, hi, rfl, rfl, hq, hb⟩ := hrel
        have HB := Lib.hid hb
        have HQ := Lib.hid hq
        have r3 : wr.cell? ⟨w.heap.size, 3, none⟩ = some (.slice sa l.length sc) := (HBL.out.below hb HBL.out.lt).cell 3
        have r9 := (HBL.out.below hb HBL.out.lt).lt
        have hle := sizes_take_le l i
        have HLE := Lib.hid hle
        clear hb
        by_cases hlt : i < l.length
        · have hlt2 : (i : Int) < (l.length : Int) := by omega
          by_cases hq0 : 0 ≤ q
          · have hqb : q ≤ 4194304 := by omega
            clear hq hle
            obtain ⟨b, off, rfl, hSb, _⟩ := HN.out.2.2.2.2 (by omega)
            obtain ⟨u, hu⟩ : ∃ u, l[i]? = some u := ⟨_, List.getElem?_eq_getElem hlt⟩
            have hum : u ∈ l := List.mem_of_getElem? hu
            have hbb := HS.out b hSb
            have hcell : ∀ j, j < 9 → wr.cell? ⟨b, off + i * 9 + j, none⟩ = u.vals[j]? := fun j hj => by
              rw [Nat.add_assoc]
              rw [← HN.out.node hu hj]
              exact ((HB0.out.trans (HB.out.mono HB0.out.size)).cell (p := ⟨b, off + (i * 9 + j), none⟩) hbb)
            have hin := (IH.out u hum S wr q ((HL.out u hum).below HS.out (HB0.out.trans (HB.out.mono HB0.out.size))) (fun b hb => Nat.lt_of_lt_of_le (HS.out b hb) (Nat.le_trans HB0.out.size HB.out.size)) hq0 hqb)
            have hst := sizes_take hu
            cases u with
            | mk k' r' ra' rc' a' l' sa' sc' n' m' z' i' s' =>
            simp only [Ta.vals] at hcell
            simp only [Ta.val, Ta.vals] at hin
            have c0 := hcell 0 (by omega)
            have c1 := hcell 1 (by omega)
            have c2 := hcell 2 (by omega)
            have c3 := hcell 3 (by omega)
            have c4 := hcell 4 (by omega)
            have c5 := hcell 5 (by omega)
            have c6 := hcell 6 (by omega)
            have c7 := hcell 7 (by omega)
            have c8 := hcell 8 (by omega)
            simp only [List.getElem?_cons_zero, List.getElem?_cons_succ, Nat.add_zero] at c0 c1 c2 c3 c4 c5 c6 c7 c8
            have HIN := Lib.hid hin
            have HST := Lib.hid hst
            clear hin hst hcell hu
            go_wp2_with (go_at_call 10; refine HIN.out.mono ?_; rintro e w2 ⟨rfl, hb2⟩; have HB2 := Lib.hid hb2; clear hb2; simp only [])
            go_roundw
            case rel =>
              refine ⟨i + 1, _, by omega, by go_num, rfl, ?_, HB.out.trans (HB2.out.mono HB.out.size)⟩
              exact ar_great HQ.out HST.out hq0
            case measure => simp [intOf]; omega
          · have hq1 : ¬ (0 ≤ q) := hq0
            clear hq
            go_wp2_with fail
            go_ret
            exact ⟨congrArg (fun z => Ending.returned (Value.int .i64 z)) (ar_end HQ.out HSZ.out HLE.out (.inl (by omega))), HB0.out.trans (HB.out.mono HB0.out.size)⟩
        · obtain rfl : i = l.length := by omega
          have hlt2 : ¬ ((l.length : Int) < (l.length : Int)) := by omega
          clear hq
          go_wp2_with fail
          go_ret
          exact ⟨congrArg (fun z => Ending.returned (Value.int .i64 z)) (ar_end HQ.out HSZ.out HLE.out (.inr (by rw [List.take_length]))), HB0.out.trans (HB.out.mono HB0.out.size)⟩
set_option maxHeartbeats 1000000 in
/-- Has a tree more parts than the statements ask of? -/
theorem deep_any (t : Ta) (S : Nat → Prop) (w : World) (h : RT w S t) (hS : ∀ b, S b → b < w.heap.size) :
    Calls Try.prog 4 #[t.val] w fun e w' => e = .returned (.bool (decide (4194304 < size t.tr))) ∧ Below w.heap.size w w' := by
  have hb0 : Below w.heap.size w (w.alloc (.cells t.vals.toArray 25)) := (Below.refl _ _).alloc (Nat.le_refl _) _
  have HB0 := Lib.hid hb0
  have HG := Lib.hid (great_any t S (w.alloc (.cells t.vals.toArray 25)) 4194304 (h.below hS hb0) (fun b hb => Nat.lt_of_lt_of_le (hS b hb) hb0.size) (by decide) (by decide))
  have hd : decide (max (4194304 - (size t.tr : Int)) (-1) < 0) = decide (4194304 < size t.tr) := by rw [decide_eq_decide]; omega
  have HD := Lib.hid hd
  clear h hS hd hb0
  cases t with
  | mk k r ra rc ast l sa sc mn mx z ix nm =>
  generalize size (Ta.mk k r ra rc ast l sa sc mn mx z ix nm).tr = q at *
  simp only [Ta.val, Ta.vals] at HG HB0 ⊢
  go_enter Try.func4, Try.ntmps4
  go_wp2_with (go_at_call 10; refine HG.out.mono ?_; rintro e w2 ⟨rfl, hb2⟩; have HB2 := Lib.hid hb2; clear hb2; simp only [])
  go_ret
  exact ⟨ret_bool (by first | exact HD.out | simpa using HD.out), HB0.out.trans (HB2.out.mono HB0.out.size)⟩

/-! ### Weight: some number -/
theorem ar_w1 {q : Int} (h1 : 1 ≤ q) (h2 : q ≤ 1099511627776) : 1 ≤ wrap64 q ∧ wrap64 q ≤ 1099511627776 := by
  have e : wrap64 q = q := by unfold wrap64; omega
  rw [e]; exact ⟨h1, h2⟩
theorem ar_w {x q : Int} (hx : 1 ≤ x) (hq : 1 ≤ q) (h : x ≤ 1099511627776 / q) : 1 ≤ wrap64 (x * q) ∧ wrap64 (x * q) ≤ 1099511627776 := by
  have h1 : x * q ≤ 1099511627776 := Int.mul_le_of_le_ediv (by omega) h
  have h2 : 1 ≤ x * q := by
    have := Int.mul_le_mul hx hq (by decide) (by omega)
    simpa using this
  exact ar_w1 h2 h1
set_option maxRecDepth 100000 in
set_option maxHeartbeats 1000000 in
theorem weight_any : ∀ (t : Ta) (S : Nat → Prop) (w : World), RT w S t → (∀ b, S b → b < w.heap.size) →
    Calls Try.prog 11 #[t.val] w fun e w' => (∃ q : Int, 1 ≤ q ∧ q ≤ 1099511627776 ∧ e = .returned (.int .i64 q)) ∧ Below w.heap.size w w' := by
  intro t
  induction t using Ta.ind with
  | h t ih =>
    intro S w h hS
    cases t with
    | mk k r ra rc ast l sa sc mn mx z ix nm =>
      obtain ⟨⟨hR, hrl, hll⟩, hN, hL⟩ := h.parts
      have IH := Lib.hid ih
      have HN := Lib.hid hN
      have HL := Lib.hid hL
      have HS := Lib.hid hS
      clear ih hL hS h
      simp only [Ta.val, Ta.vals]
      have hb0 : Below w.heap.size w (w.alloc (.cells #[.int .i64 k, .slice ra r.length rc, .int .i64 ast, .slice sa l.length sc, .int .i64 mn, .int .i64 mx, .bool z, .int .i64 ix, .string nm] 25)) := (Below.refl _ _).alloc (Nat.le_refl _) _
      have hbl := Blk.new w 25 [.int .i64 k, .slice ra r.length rc, .int .i64 ast, .slice sa l.length sc, .int .i64 mn, .int .i64 mx, .bool z, .int .i64 ix, .string nm]
      have hsc := hN.1
      have hsc2 := hN.2.1
      have hrc := hR.1
      have hrc2 := hR.2.1
      have HB0 := Lib.hid hb0
      have HBL := Lib.hid hbl
      clear hb0 hbl hN hR
      go_enter Try.func11, Try.ntmps11
      go_wp2_with fail
      generalize w.alloc (.cells #[.int .i64 k, .slice ra r.length rc, .int .i64 ast, .slice sa l.length sc, .int .i64 mn, .int .i64 mx, .bool z, .int .i64 ix, .string nm] 25) = w1 at *
      go_loopw [3, 4] (fun nv iv wr => ∃ (i : Nat) (q : Int), i ≤ l.length ∧ iv = .int .i64 (i : Int) ∧ nv = .int .i64 q ∧ 1 ≤ q ∧ q ≤ 1099511627776 ∧ Below w1.heap.size w1 wr) (fun _ iv _ => l.length - (intOf iv).toNat)
      case atStart => exact ⟨0, 1 + (r.length : Int), Nat.zero_le _, rfl, by go_num, by omega, by omega, Below.refl _ _⟩
      case round =>
        obtain ⟨i, q, hi, rfl, rfl, hq1, hq2, hb⟩ := hrel
        have HB := Lib.hid hb
        have r0 : wr.cell? ⟨w.heap.size, 0, none⟩ = some (.int .i64 k) := (HBL.out.below hb HBL.out.lt).cell 0
        have r3 : wr.cell? ⟨w.heap.size, 3, none⟩ = some (.slice sa l.length sc) := (HBL.out.below hb HBL.out.lt).cell 3
        have r4 : wr.cell? ⟨w.heap.size, 4, none⟩ = some (.int .i64 mn) := (HBL.out.below hb HBL.out.lt).cell 4
        have r5 : wr.cell? ⟨w.heap.size, 5, none⟩ = some (.int .i64 mx) := (HBL.out.below hb HBL.out.lt).cell 5
        have r9 := (HBL.out.below hb HBL.out.lt).lt
        clear hb
        by_cases hlt : i < l.length
        · have hlt2 : (i : Int) < (l.length : Int) := by omega
          obtain ⟨b, off, rfl, hSb, _⟩ := HN.out.2.2.2.2 (by omega)
          obtain ⟨u, hu⟩ : ∃ u, l[i]? = some u := ⟨_, List.getElem?_eq_getElem hlt⟩
          have hum : u ∈ l := List.mem_of_getElem? hu
          have hbb := HS.out b hSb
          have hcell : ∀ j, j < 9 → wr.cell? ⟨b, off + i * 9 + j, none⟩ = u.vals[j]? := fun j hj => by
            rw [Nat.add_assoc]
            rw [← HN.out.node hu hj]
            exact ((HB0.out.trans (HB.out.mono HB0.out.size)).cell (p := ⟨b, off + (i * 9 + j), none⟩) hbb)
          have hin := (IH.out u hum S wr ((HL.out u hum).below HS.out (HB0.out.trans (HB.out.mono HB0.out.size))) (fun b hb => Nat.lt_of_lt_of_le (HS.out b hb) (Nat.le_trans HB0.out.size HB.out.size)))
          cases u with
          | mk k' r' ra' rc' a' l' sa' sc' n' m' z' i' s' =>
          simp only [Ta.vals] at hcell
          simp only [Ta.val, Ta.vals] at hin
          have c0 := hcell 0 (by omega)
          have c1 := hcell 1 (by omega)
          have c2 := hcell 2 (by omega)
          have c3 := hcell 3 (by omega)
          have c4 := hcell 4 (by omega)
          have c5 := hcell 5 (by omega)
          have c6 := hcell 6 (by omega)
          have c7 := hcell 7 (by omega)
          have c8 := hcell 8 (by omega)
          simp only [List.getElem?_cons_zero, List.getElem?_cons_succ, Nat.add_zero] at c0 c1 c2 c3 c4 c5 c6 c7 c8
          have HIN := Lib.hid hin
          clear hin hcell hu
          go_wp2_with (go_at_call 11; refine HIN.out.mono ?_; rintro e w2 ⟨⟨q2, hp1, hp2, rfl⟩, hb2⟩; have HB2 := Lib.hid hb2; clear hb2; simp only [])
          go_roundw
          case rel =>
            exact ⟨i + 1, min 1099511627776 (q + q2), by omega, by go_num, by go_num, by omega, by omega, HB.out.trans (HB2.out.mono HB.out.size)⟩
          case measure => simp [intOf]; omega
        · obtain rfl : i = l.length := by omega
          have hlt2 : ¬ ((l.length : Int) < (l.length : Int)) := by omega
          have hq0 : ¬ (q = 0) := by omega
          have hbb := HB0.out.trans (HB.out.mono HB0.out.size)
          have HBB := Lib.hid hbb
          clear hbb
          by_cases hk6 : k = 6
          all_goals
            go_wp2_with fail
          all_goals
            go_ret
            refine ⟨?_, HBB.out⟩
            first
              | exact ⟨_, by decide, by decide, rfl⟩
              | exact ⟨q, hq1, hq2, rfl⟩
              | exact ⟨_, (ar_w (x := mn) (by omega) hq1 (by omega)).1, (ar_w (x := mn) (by omega) hq1 (by omega)).2, rfl⟩
              | exact ⟨_, (ar_w (x := mx) (by omega) hq1 (by omega)).1, (ar_w (x := mx) (by omega) hq1 (by omega)).2, rfl⟩
              | exact ⟨_, (ar_w1 hq1 hq2).1, (ar_w1 hq1 hq2).2, rfl⟩
set_option maxHeartbeats 1000000 in
/-- Would a tree's simple form be too great to be held? Some answer. -/
theorem heavy_any (t : Ta) (S : Nat → Prop) (w : World) (h : RT w S t) (hS : ∀ b, S b → b < w.heap.size) :
    Calls Try.prog 5 #[t.val] w fun e w' => (∃ b : Bool, e = .returned (.bool b)) ∧ Below w.heap.size w w' := by
  have hb0 : Below w.heap.size w (w.alloc (.cells t.vals.toArray 25)) := (Below.refl _ _).alloc (Nat.le_refl _) _
  have HB0 := Lib.hid hb0
  have HG := Lib.hid (weight_any t S (w.alloc (.cells t.vals.toArray 25)) (h.below hS hb0) (fun b hb => Nat.lt_of_lt_of_le (hS b hb) hb0.size))
  clear h hS hb0
  cases t with
  | mk k r ra rc ast l sa sc mn mx z ix nm =>
  simp only [Ta.val, Ta.vals] at HG HB0 ⊢
  go_enter Try.func5, Try.ntmps5
  go_wp2_with (go_at_call 11; refine HG.out.mono ?_; rintro e w2 ⟨⟨q, hq1, hq2, rfl⟩, hb2⟩; have HB2 := Lib.hid hb2; clear hb2; simp only [])
  go_ret
  exact ⟨⟨_, rfl⟩, HB0.out.trans (HB2.out.mono HB0.out.size)⟩
end Go.Proofs.Ytclbbfkgdhmheaa
/- simplify: what is reckoned of a tree: bounded, above, put, form, times. -/
namespace Go.Proofs.Ytclbbfkgdhmheaa
open Go.RowKit Go.Proofs.Ytclbbfkgdhmheaa.Tr

def fvals (f : Tr.Form) : List Value := [.int .i64 f.kind, .int .i64 f.size, .int .i64 f.deep, .int .i64 f.subs]
def fv (f : Tr.Form) : Value := .agg (fvals f).toArray
def jvals (j : Jn) : List Value := [.int .i64 j.size, .int .i64 j.deep, .int .i64 j.subs, .int .i64 j.only.kind, .int .i64 j.only.size, .int .i64 j.only.deep, .int .i64 j.only.subs]
/-- Within the limits. -/
def FB (f : Tr.Form) : Prop := 0 ≤ f.size ∧ f.size ≤ 200001 ∧ 0 ≤ f.deep ∧ f.deep ≤ 10001 ∧ 0 ≤ f.subs ∧ f.subs ≤ 200001
def JB (j : Jn) : Prop := 0 ≤ j.size ∧ j.size ≤ 200001 ∧ 0 ≤ j.deep ∧ j.deep ≤ 10001 ∧ 0 ≤ j.subs ∧ j.subs ≤ 200001

theorem und_form : ∃ d, Try.prog.underlying 77 = some d ∧ isRow d = true := ⟨_, Try.underlying77, rfl⟩
theorem size_form : (Try.prog.info? 77).map (·.size) = some 4 := by kernel_rfl
theorem form_ret {fn : Func} {p : Tmp} (h : fn.results = #[.cell p 77]) (tmps : Array Value) (w : World) (g : Nat) (v0 v1 v2 v3 : Value) (hp : tmps.getD p undef = .pointer (some ⟨g, 0, none⟩)) (hg : Blk w g 77 [v0, v1, v2, v3]) :
    (results fn tmps).run Try.prog w = .ok (.agg #[v0, v1, v2, v3]) w := by
  obtain ⟨d, hu, hd⟩ := und_form
  exact results_cell_one h tmps w g _ #[v0, v1, v2, v3] d hp hg hu hd size_form
theorem agg4 {a a' b b' c c' d d' : Int} (h1 : a = a') (h2 : b = b') (h3 : c = c') (h4 : d = d') : Value.agg #[.int .i64 a, .int .i64 b, .int .i64 c, .int .i64 d] = Value.agg #[.int .i64 a', .int .i64 b', .int .i64 c', .int .i64 d'] := by subst h1 h2 h3 h4; rfl
theorem two_below (w : World) (o o' : Obj) : Below w.heap.size w ((w.alloc o).alloc o') := ((Below.refl _ _).alloc (Nat.le_refl _) _).alloc (by simp) _
theorem two_blk (w : World) (o : Obj) (t : TypeId) (cs : List Value) : Blk ((w.alloc o).alloc (.cells cs.toArray t)) (w.heap.size + 1) t cs := by
  have := Blk.new (w.alloc o) t cs
  rw [show (w.alloc o).heap.size = w.heap.size + 1 from by simp] at this
  exact this

set_option maxHeartbeats 400000 in
theorem bounded_any (f : Tr.Form) (w : World) :
    Calls Try.prog 41 #[fv f] w fun e w' => e = .returned (fv (boundF f)) ∧ Below w.heap.size w w' := by
  simp only [fv, fvals, boundF, cN, cD]
  go_enter Try.func41, Try.ntmps41
  go_wp2_with fail
  all_goals
    refine bodyPost_ret (form_ret rfl _ _ (w.heap.size + 1) _ _ _ _ rfl (two_blk w _ _ _)) rfl ?_
    exact ⟨congrArg Ending.returned (agg4 rfl (by omega) (by omega) rfl), two_below w _ _⟩
set_option maxHeartbeats 400000 in
theorem above_any (k : Int) (f : Tr.Form) (hf : FB f) (w : World) :
    Calls Try.prog 38 #[.int .i64 k, fv f] w fun e w' => e = .returned (fv (aboveF k f)) ∧ Below w.heap.size w w' := by
  have hB := fun g u => Lib.hid (bounded_any g u)
  obtain ⟨h1, h2, h3, h4, h5, h6⟩ := hf
  simp only [fv, fvals, aboveF] at hB ⊢
  have hR := two_blk w (.cells #[.int .i64 f.kind, .int .i64 f.size, .int .i64 f.deep, .int .i64 f.subs] 77) 77 [.int .i64 0, .int .i64 0, .int .i64 0, .int .i64 0]
  have h0 := two_below w (.cells #[.int .i64 f.kind, .int .i64 f.size, .int .i64 f.deep, .int .i64 f.subs] 77) (.cells #[.int .i64 0, .int .i64 0, .int .i64 0, .int .i64 0] 77)
  have HR := Lib.hid hR
  have H0 := Lib.hid h0
  clear hR h0
  obtain ⟨g, hg⟩ : ∃ g, g = boundF ⟨k, f.size + 1, f.deep + 1, 0⟩ := ⟨_, rfl⟩
  have hB2 := fun u => Lib.hid (hB ⟨k, f.size + 1, f.deep + 1, 0⟩ u).out
  rw [← hg] at hB2 ⊢
  clear hg hB
  go_enter Try.func38, Try.ntmps38
  go_wp2_with (go_at_call 41; refine (hB2 _).out.mono ?_; rintro e w2 ⟨rfl, hb2⟩; have hR2 := HR.out.below hb2 HR.out.lt; have HR2 := Lib.hid hR2; have HB2 := Lib.hid (H0.out.trans (hb2.mono H0.out.size)); have q0 : w2.cell? ⟨w.heap.size + 1, 0, none⟩ = some (.int .i64 0) := hR2.cell 0; have q1 : w2.cell? ⟨w.heap.size + 1, 1, none⟩ = some (.int .i64 0) := hR2.cell 1; have q2 : w2.cell? ⟨w.heap.size + 1, 2, none⟩ = some (.int .i64 0) := hR2.cell 2; have q3 : w2.cell? ⟨w.heap.size + 1, 3, none⟩ = some (.int .i64 0) := hR2.cell 3; have s0 := hR2.frozen 0; have s1 := hR2.frozen 1; have s2 := hR2.frozen 2; have s3 := hR2.frozen 3; have s4 := hR2.lt; clear hb2 hR2; simp only [])
  refine bodyPost_ret (form_ret rfl _ _ (w.heap.size + 1) (.int .i64 g.kind) (.int .i64 g.size) (.int .i64 g.deep) (.int .i64 g.subs) rfl ((((HR2.out.set_ 0 (.int .i64 g.kind)).set_ 1 (.int .i64 g.size)).set_ 2 (.int .i64 g.deep)).set_ 3 (.int .i64 g.subs))) rfl ?_
  refine ⟨rfl, Below.kept HB2.out ((((Kept.setCell ⟨w.heap.size + 1, 0, none⟩ _).trans (Kept.setCell ⟨w.heap.size + 1, 1, none⟩ _)).trans (Kept.setCell ⟨w.heap.size + 1, 2, none⟩ _)).trans (Kept.setCell ⟨w.heap.size + 1, 3, none⟩ _)) ?_ HB2.out.size⟩
  intro b hb; simp at hb; omega
theorem blk_eq {w : World} {g : Nat} {t : TypeId} {cs cs' : List Value} (h : Blk w g t cs) (e : cs = cs') : Blk w g t cs' := e ▸ h
theorem jv_eq {a b c d e f g a' b' c' d' e' f' g' : Int} (h1 : a = a') (h2 : b = b') (h3 : c = c') (h4 : d = d') (h5 : e = e') (h6 : f = f') (h7 : g = g') :
    [Value.int .i64 a, .int .i64 b, .int .i64 c, .int .i64 d, .int .i64 e, .int .i64 f, .int .i64 g] = [.int .i64 a', .int .i64 b', .int .i64 c', .int .i64 d', .int .i64 e', .int .i64 f', .int .i64 g'] := by subst h1 h2 h3 h4 h5 h6 h7; rfl
theorem mul_bd {n s : Int} (hn : 0 ≤ n) (hn2 : n ≤ 1000) (hs : -1 ≤ s) (hs2 : s ≤ 200001) : -1000 ≤ n * s ∧ n * s ≤ 200001000 := by
  have h1 : n * s ≤ 200001000 := by
    have e1 : n * s ≤ n * 200001 := Int.mul_le_mul_of_nonneg_left hs2 hn
    omega
  have h2 : 0 ≤ n * (s + 1) := Int.mul_nonneg hn (by omega)
  rw [Int.mul_add, Int.mul_one] at h2
  constructor <;> omega
set_option maxRecDepth 100000 in
set_option maxHeartbeats 4000000 in
theorem jput_any (jb : Nat) (j : Jn) (f : Tr.Form) (n : Int) (w : World) (hj : Blk w jb 99 (jvals j)) (hJ : JB j) (hF : FB f) (hn0 : 0 ≤ n) (hn1 : n ≤ 1000) :
    Calls Try.prog 39 #[.pointer (some ⟨jb, 0, none⟩), fv f, .int .i64 n] w fun e w' => e = .returned (.tuple #[]) ∧ Blk w' jb 99 (jvals (jput j f n)) ∧ Kept w w' [jb] := by
  obtain ⟨a1, a2, a3, a4, a5, a6⟩ := hJ
  obtain ⟨b1, b2, b3, b4, b5, b6⟩ := hF
  obtain ⟨js, jd, jn, jo⟩ := j
  obtain ⟨fk, fs, fd, fn⟩ := f
  simp only [] at a1 a2 a3 a4 a5 a6 b1 b2 b3 b4 b5 b6
  have m1 := mul_bd hn0 hn1 (s := fs - 1) (by omega) (by omega)
  have m2 := mul_bd hn0 hn1 (s := fs) (by omega) (by omega)
  have m3 := mul_bd hn0 hn1 (s := fn) (by omega) (by omega)
  have hb0 : Below w.heap.size w (w.alloc (.cells #[.int .i64 fk, .int .i64 fs, .int .i64 fd, .int .i64 fn] 77)) := (Below.refl _ _).alloc (Nat.le_refl _) _
  have hj1 := hj.alloc (.cells #[.int .i64 fk, .int .i64 fs, .int .i64 fd, .int .i64 fn] 77)
  have hbf := Blk.new w 77 [.int .i64 fk, .int .i64 fs, .int .i64 fd, .int .i64 fn]
  have hlt := hj.lt
  simp only [jvals] at hj1
  simp only [fv, fvals]
  have HJ := Lib.hid hj1
  have HB0 := Lib.hid hb0
  have HBF := Lib.hid hbf
  simp only [jvals] at hj
  have HJ0 := Lib.hid hj
  have c0 : w.cell? ⟨jb, 0, none⟩ = some (.int .i64 js) := hj.cell 0
  have c1 : w.cell? ⟨jb, 1, none⟩ = some (.int .i64 jd) := hj.cell 1
  have c2 : w.cell? ⟨jb, 2, none⟩ = some (.int .i64 jn) := hj.cell 2
  have c3 : w.cell? ⟨jb, 3, none⟩ = some (.int .i64 jo.kind) := hj.cell 3
  have c4 : w.cell? ⟨jb, 4, none⟩ = some (.int .i64 jo.size) := hj.cell 4
  have c5 : w.cell? ⟨jb, 5, none⟩ = some (.int .i64 jo.deep) := hj.cell 5
  have c6 : w.cell? ⟨jb, 6, none⟩ = some (.int .i64 jo.subs) := hj.cell 6
  have s0 := hj.frozen 0
  have s1 := hj.frozen 1
  have s2 := hj.frozen 2
  have s3 := hj.frozen 3
  have s4 := hj.frozen 4
  have s5 := hj.frozen 5
  have s6 := hj.frozen 6
  clear hj hb0 hj1 hbf
  have e1 : min js 200001 = js := by omega
  have e2 : min jn 200001 = jn := by omega
  by_cases h0 : n = 0
  · subst h0
    go_enter Try.func39, Try.ntmps39
    go_wp2_with fail
    all_goals
      go_end0
      refine ⟨rfl, blk_eq (((HJ0.out.set_ 0 _).set_ 2 _).alloc _) ?_, ((((Kept.setCell (w := w) ⟨jb, 0, none⟩ _).trans (Kept.setCell ⟨jb, 2, none⟩ _)).trans (Kept.alloc (L := []) _)).more (by intro b hb; simp at hb; exact .inl (by simp [hb])))⟩
      simp only [jvals, jput, jput1, cN, List.set_cons_zero, List.set_cons_succ]
      simp only [true_or, if_true]
      exact jv_eq (by omega) rfl (by omega) rfl rfl rfl rfl
  by_cases h1 : fk = 1
  · subst h1
    go_enter Try.func39, Try.ntmps39
    go_wp2_with fail
    all_goals
      go_end0
      refine ⟨rfl, blk_eq (((HJ0.out.set_ 0 _).set_ 2 _).alloc _) ?_, ((((Kept.setCell (w := w) ⟨jb, 0, none⟩ _).trans (Kept.setCell ⟨jb, 2, none⟩ _)).trans (Kept.alloc (L := []) _)).more (by intro b hb; simp at hb; exact .inl (by simp [hb])))⟩
      simp only [jvals, jput, jput1, cN, List.set_cons_zero, List.set_cons_succ]
      simp only [or_true, if_true]
      exact jv_eq (by omega) rfl (by omega) rfl rfl rfl rfl
  have hc : ¬ (n = 0 ∨ fk = 1) := fun h => h.elim h0 h1
  have HC := Lib.hid hc
  clear hc
  by_cases h4 : fk = 4
  · subst h4
    obtain ⟨q1, hq1⟩ : ∃ q, n * (fs - 1) = q := ⟨_, rfl⟩
    obtain ⟨q3, hq3⟩ : ∃ q, n * fn = q := ⟨_, rfl⟩
    rw [hq1] at m1
    rw [hq3] at m3
    go_enter Try.func39, Try.ntmps39
    go_wp2_with fail
    go_region
    all_goals go_wp2_with fail
    all_goals (try go_region)
    all_goals go_wp2_with fail
    all_goals (try go_region)
    all_goals go_wp2_with fail
    all_goals (try go_region)
    all_goals go_wp2_with fail
    all_goals
      go_end0
      refine ⟨rfl, blk_eq ((((((HJ0.out.set_ 0 _).set_ 1 _).set_ 2 _).set_ 0 _).set_ 2 _).alloc _).drew.drew.drew ?_, ((((((((((Kept.setCell (w := w) ⟨jb, 0, none⟩ _).trans (Kept.setCell ⟨jb, 1, none⟩ _)).trans (Kept.setCell ⟨jb, 2, none⟩ _)).trans (Kept.setCell ⟨jb, 0, none⟩ _)).trans (Kept.setCell ⟨jb, 2, none⟩ _)).trans (Kept.alloc (L := []) _)).trans (Kept.drew (L := []))).trans (Kept.drew (L := []))).trans (Kept.drew (L := []))).more (by intro b hb; simp at hb; exact .inl (by simp [hb])))⟩
      simp only [jvals, jput, jput1, cN, List.set_cons_zero, List.set_cons_succ]
      rw [if_neg HC.out, if_pos trivial, hq1, hq3]
      exact jv_eq (by simp only []; omega) (by simp only []; omega) (by simp only []; omega) rfl rfl rfl rfl
  · obtain ⟨q2, hq2⟩ : ∃ q, n * fs = q := ⟨_, rfl⟩
    rw [hq2] at m2
    have h4b : (fk == 4) = false := by simpa using h4
    have h1b : (fk == 1) = false := by simpa using h1
    have h0b : (n == 0) = false := by simpa using h0
    go_enter Try.func39, Try.ntmps39
    go_wp2_with fail
    go_region
    all_goals go_wp2_with fail
    all_goals (try go_region)
    all_goals go_wp2_with fail
    all_goals (try go_region)
    all_goals go_wp2_with fail
    all_goals (try go_region)
    all_goals go_wp2_with fail
    all_goals
      go_end0
      refine ⟨rfl, blk_eq ((((((((((HJ0.out.set_ 0 _).set_ 1 _).set_ 2 _).set_ 3 _).set_ 4 _).set_ 5 _).set_ 6 _).set_ 0 _).set_ 2 _).alloc _).drew.drew ?_, (((((((((((((Kept.setCell (w := w) ⟨jb, 0, none⟩ _).trans (Kept.setCell ⟨jb, 1, none⟩ _)).trans (Kept.setCell ⟨jb, 2, none⟩ _)).trans (Kept.setCell ⟨jb, 3, none⟩ _)).trans (Kept.setCell ⟨jb, 4, none⟩ _)).trans (Kept.setCell ⟨jb, 5, none⟩ _)).trans (Kept.setCell ⟨jb, 6, none⟩ _)).trans (Kept.setCell ⟨jb, 0, none⟩ _)).trans (Kept.setCell ⟨jb, 2, none⟩ _)).trans (Kept.alloc (L := []) _)).trans (Kept.drew (L := []))).trans (Kept.drew (L := []))).more (by intro b hb; simp at hb; exact .inl (by simp [hb])))⟩
      simp only [jvals, jput, jput1, cN, List.set_cons_zero, List.set_cons_succ]
      rw [if_neg HC.out, if_neg h4, hq2]
      exact jv_eq (by simp only []; omega) (by simp only []; omega) (by simp only []; omega) rfl rfl rfl rfl
end Go.Proofs.Ytclbbfkgdhmheaa
/- simplify: a joined row's form. -/
namespace Go.Proofs.Ytclbbfkgdhmheaa
open Go.RowKit Go.Proofs.Ytclbbfkgdhmheaa.Tr

set_option maxRecDepth 100000 in
set_option maxHeartbeats 1000000 in
theorem jform_any (jb : Nat) (j : Jn) (w : World) (hj : Blk w jb 99 (jvals j)) (hJ : JB j) :
    Calls Try.prog 40 #[.pointer (some ⟨jb, 0, none⟩)] w fun e w' => e = .returned (fv (jform j)) ∧ Below w.heap.size w w' := by
  obtain ⟨a1, a2, a3, a4, a5, a6⟩ := hJ
  obtain ⟨js, jd, jn, ⟨ok, os, od, on⟩⟩ := j
  simp only [] at a1 a2 a3 a4 a5 a6
  simp only [jvals] at hj
  have hlt := hj.lt
  have c0 : w.cell? ⟨jb, 0, none⟩ = some (.int .i64 js) := hj.cell 0
  have c1 : w.cell? ⟨jb, 1, none⟩ = some (.int .i64 jd) := hj.cell 1
  have c2 : w.cell? ⟨jb, 2, none⟩ = some (.int .i64 jn) := hj.cell 2
  have c3 : w.cell? ⟨jb, 3, none⟩ = some (.int .i64 ok) := hj.cell 3
  have c4 : w.cell? ⟨jb, 4, none⟩ = some (.int .i64 os) := hj.cell 4
  have c5 : w.cell? ⟨jb, 5, none⟩ = some (.int .i64 od) := hj.cell 5
  have c6 : w.cell? ⟨jb, 6, none⟩ = some (.int .i64 on) := hj.cell 6
  have hR := Blk.new w 77 [.int .i64 0, .int .i64 0, .int .i64 0, .int .i64 0]
  have h0 : Below w.heap.size w (w.alloc (.cells #[.int .i64 0, .int .i64 0, .int .i64 0, .int .i64 0] 77)) := (Below.refl _ _).alloc (Nat.le_refl _) _
  have HR := Lib.hid hR
  have H0 := Lib.hid h0
  have HJ1 := Lib.hid (hj.alloc (.cells #[.int .i64 0, .int .i64 0, .int .i64 0, .int .i64 0] 77))
  obtain ⟨g, hg⟩ : ∃ g, g = boundF ⟨4, js + 1, jd + 1, jn⟩ := ⟨_, rfl⟩
  have hB2 := fun u => Lib.hid (bounded_any ⟨4, js + 1, jd + 1, jn⟩ u)
  rw [← hg] at hB2
  have HG := Lib.hid hg
  clear hj hR h0 hg
  simp only [fv, fvals] at hB2 ⊢
  by_cases hz : jn = 0
  · subst hz
    go_enter Try.func40, Try.ntmps40
    go_wp2_with fail
    refine bodyPost_ret (form_ret rfl _ _ w.heap.size _ _ _ _ rfl (Blk.new w _ [_, _, _, _])) rfl ?_
    exact ⟨rfl, (Below.refl _ _).alloc (Nat.le_refl _) _⟩
  · by_cases h1 : jn = 1
    · subst h1
      go_enter Try.func40, Try.ntmps40
      go_wp2_with fail
      refine bodyPost_ret (form_ret rfl _ _ w.heap.size _ _ _ _ rfl (Blk.new w _ [_, _, _, _])) rfl ?_
      exact ⟨rfl, (Below.refl _ _).alloc (Nat.le_refl _) _⟩
    · have HZ := Lib.hid hz
      have HZ1 := Lib.hid h1
      have h0b : (jn == 0) = false := by simpa using hz
      have h1b : (jn == 1) = false := by simpa using h1
      go_enter Try.func40, Try.ntmps40
      go_wp2_with fail
      clear c0 c1 c2 c3 c4 c5 c6
      generalize w.alloc (.cells #[.int .i64 0, .int .i64 0, .int .i64 0, .int .i64 0] 77) = w1 at *
      have c0 : w1.drew.cell? ⟨jb, 0, none⟩ = some (.int .i64 js) := HJ1.out.cell 0
      have c1 : w1.drew.cell? ⟨jb, 1, none⟩ = some (.int .i64 jd) := HJ1.out.cell 1
      have c2 : w1.drew.cell? ⟨jb, 2, none⟩ = some (.int .i64 jn) := HJ1.out.cell 2
      refine wp_region_still_tail 15 (by kernel_rfl) (by kernel_rfl) ?_
      simp only [List.take_succ_cons, List.take_zero, List.drop_succ_cons, List.drop_zero]
      change wpStill _ _ w1.drew _ _ _
      repeat still_step
      refine wpStill_nil ?_
      change wpList _ _ _ _ _ w1.drew
      go_wp2_with (go_at_call 41; refine (hB2 _).out.mono ?_; rintro e w2 ⟨rfl, hb2⟩; have hR2 := HR.out.drew.below hb2 HR.out.lt; have HR2 := Lib.hid hR2; have HB2 := Lib.hid ((bdrewN H0.out 1).trans (hb2.mono H0.out.size)); have q0 : w2.cell? ⟨w.heap.size, 0, none⟩ = some (.int .i64 0) := hR2.cell 0; have q1 : w2.cell? ⟨w.heap.size, 1, none⟩ = some (.int .i64 0) := hR2.cell 1; have q2 : w2.cell? ⟨w.heap.size, 2, none⟩ = some (.int .i64 0) := hR2.cell 2; have q3 : w2.cell? ⟨w.heap.size, 3, none⟩ = some (.int .i64 0) := hR2.cell 3; have s0 := hR2.frozen 0; have s1 := hR2.frozen 1; have s2 := hR2.frozen 2; have s3 := hR2.frozen 3; have s4 := hR2.lt; clear hb2 hR2; simp only [])
      refine bodyPost_ret (form_ret rfl _ _ w.heap.size (.int .i64 g.kind) (.int .i64 g.size) (.int .i64 g.deep) (.int .i64 g.subs) rfl ((((HR2.out.set_ 0 (.int .i64 g.kind)).set_ 1 (.int .i64 g.size)).set_ 2 (.int .i64 g.deep)).set_ 3 (.int .i64 g.subs))) rfl ?_
      have hjf : jform ⟨js, jd, jn, ⟨ok, os, od, on⟩⟩ = g := by unfold jform; rw [if_neg HZ.out, if_neg HZ1.out, HG.out]
      refine ⟨by rw [hjf], Below.kept HB2.out ((((Kept.setCell ⟨w.heap.size, 0, none⟩ _).trans (Kept.setCell ⟨w.heap.size, 1, none⟩ _)).trans (Kept.setCell ⟨w.heap.size, 2, none⟩ _)).trans (Kept.setCell ⟨w.heap.size, 3, none⟩ _)) ?_ HB2.out.size⟩
      intro b hb; simp at hb; omega
end Go.Proofs.Ytclbbfkgdhmheaa
/- simplify: the reckoned forms stay within the limits (plain). -/
namespace Go.Proofs.Ytclbbfkgdhmheaa
open Go.Proofs.Ytclbbfkgdhmheaa.Tr

/-- A form of something: one node at least; of a cat two Subs at least. -/
def FB1 (f : Tr.Form) : Prop := FB f ∧ 1 ≤ f.size ∧ 1 ≤ f.deep ∧ (f.kind = 4 → 2 ≤ f.subs)
def JB1 (j : Jn) : Prop := JB j ∧ (j.subs = 1 → FB1 j.only)
theorem jb1_zero : JB1 j0 := by
  simp only [JB1, JB, FB1, FB, j0]; omega
theorem fb1_leaf {k : Int} (hk : k ≠ 4) : FB1 ⟨k, 1, 1, 0⟩ := by
  simp only [FB1, FB]; omega
theorem fb1_above {k : Int} {f : Tr.Form} (h : FB1 f) (hk : k ≠ 4) : FB1 (aboveF k f) := by
  simp only [FB1, FB, aboveF, boundF, cN, cD] at h ⊢; omega
theorem jb1_put {j : Jn} {f : Tr.Form} {n : Int} (hj : JB1 j) (hf : FB1 f) (hn : 0 ≤ n) : JB1 (jput j f n) := by
  by_cases h0 : n = 0 ∨ f.kind = 1
  · obtain ⟨js, jd, jn, o⟩ := j
    have e : jput ⟨js, jd, jn, o⟩ f n = ⟨js, jd, jn, o⟩ := by
      obtain ⟨⟨_, h1, _, _, _, h2⟩, _⟩ := hj
      simp only [] at h1 h2
      simp only [jput, jput1, if_pos h0, cN]
      rw [Int.min_eq_left h1, Int.min_eq_left h2]
    rw [e]; exact hj
  · have hn1 : 1 ≤ n := by omega
    have m1 : 0 ≤ n * (f.size - 1) := Int.mul_nonneg hn (by have := hf.2.1; omega)
    have m2 : 0 ≤ n * f.size := Int.mul_nonneg hn (by have := hf.2.1; omega)
    by_cases h4 : f.kind = 4
    · have m3 : 1 * 2 ≤ n * f.subs := Int.mul_le_mul hn1 (hf.2.2.2 h4) (by decide) hn
      simp only [JB1, JB, FB1, FB] at hj hf
      simp only [JB1, JB, jput, jput1, if_neg h0, if_pos h4, cN]
      generalize n * (f.size - 1) = p at *
      generalize n * f.subs = q at *
      refine ⟨by omega, fun h => ?_⟩
      omega
    · have hff := hf
      simp only [JB1, JB, FB1, FB] at hj hf
      simp only [JB1, JB, jput, jput1, if_neg h0, if_neg h4, cN]
      generalize n * f.size = p at *
      exact ⟨by omega, fun _ => hff⟩
theorem fb1_jform {j : Jn} (hj : JB1 j) : FB1 (jform j) := by
  unfold jform
  by_cases h0 : j.subs = 0
  · rw [if_pos h0]; exact fb1_leaf (by decide)
  · by_cases h1 : j.subs = 1
    · rw [if_neg h0, if_pos h1]; exact hj.2 h1
    · rw [if_neg h0, if_neg h1]
      have h := hj.1
      simp only [JB] at h
      simp only [FB1, FB, boundF, cN, cD]
      omega
theorem fb1_opt {y : Tr.Form} (h : FB1 y) : ∀ n, FB1 (optF y n)
  | 0 => fb1_leaf (by decide)
  | n + 1 => fb1_above (fb1_jform (jb1_put (jb1_put jb1_zero h (by decide)) (fb1_opt h n) (by decide))) (by decide)
theorem fb1_times {y : Tr.Form} (h : FB1 y) {mn mx : Int} (h0 : 0 ≤ mn) : FB1 (timesF y mn mx) := by
  unfold timesF
  by_cases hm : mx < 0 ∧ mn = 0
  · rw [if_pos hm]; exact fb1_above h (by decide)
  · by_cases hx : mx < 0
    · rw [if_neg hm, if_pos hx]
      exact fb1_jform (jb1_put (jb1_put jb1_zero h (by omega)) (fb1_above h (by decide)) (by decide))
    · rw [if_neg hm, if_neg hx]
      exact fb1_jform (jb1_put (jb1_put jb1_zero h h0) (fb1_opt h _) (by decide))
theorem fb1_joins {l : List Tr.Form} : ∀ {j : Jn}, JB1 j → (∀ f ∈ l, FB1 f) → JB1 (l.foldl (fun j f => jput j f 1) j) := by
  induction l with
  | nil => intro j hj _; exact hj
  | cons f l ih =>
    intro j hj hl
    exact ih (jb1_put hj (hl f (by simp)) (by decide)) (fun g hg => hl g (by simp [hg]))
/-- An alternative's numbers, so far. -/
def AB (p : Int × Int) : Prop := 0 ≤ p.1 ∧ p.1 ≤ 200001 ∧ 0 ≤ p.2 ∧ p.2 ≤ 10001
theorem ab_put {p : Int × Int} {f : Tr.Form} (hp : AB p) (hf : FB1 f) : AB (altPutF p f) := by
  simp only [AB, FB1, FB] at hp hf
  unfold altPutF
  by_cases h : f.kind = 5
  · simp only [if_pos h, AB, cN]; omega
  · simp only [if_neg h, AB, cN]; omega
end Go.Proofs.Ytclbbfkgdhmheaa
