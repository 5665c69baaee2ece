/- heronlaw06: ends, alike. -/
import Derived.Test.YtjeljlgjkjeloaaQOnce
import Derived.Test.YtjeljlgjkjeloaaQMulW
import Derived.Test.YtjeljlgjkjeloaaQTop
import Derived.Test.YtjeljlgjkjeloaaQLs
namespace Go.Proofs.Ytjeljlgjkjeloaa
open Go.RowKit

theorem info_boolM : (Try.prog.info? 4).map (fun i => (i.zero, i.size, i.bytes)) = some (some (.bool false), 1, 1) := by kernel_rfl
def bls (L : List Bool) : List Value := L.map Value.bool
theorem bls_length (L : List Bool) : (bls L).length = L.length := by simp [bls]
theorem bls_get {L : List Bool} {j : Nat} {b : Bool} (h : L[j]? = some b) : (bls L)[j]? = some (.bool b) := by simp [bls, h]
theorem bls_set (L : List Bool) (j : Nat) (b : Bool) : (bls L).set j (.bool b) = bls (L.set j b) := by simp [bls, List.map_set]
/-- A row of false is made. -/
theorem make_bools (n : Nat) (hn : n ≤ 1099511627776) (u : World) : (Instr.makeSlice 38 (.int .i64 (n : Int)) (.int .i64 (n : Int))).run Try.prog u =
      .ok (.slice (some ⟨u.heap.size, 0, none⟩) n n) (u.alloc (.cells (bls (List.replicate n false)).toArray 4)) := by
  obtain ⟨i0, hi, hz0, hz1, hz2⟩ := info_parts info_boolM
  have h := run_make (P := Try.prog) u 38 4 i0 (.bool false) Try.underlying38 hi hz0 .i64 .i64 (n : Int) (n : Int) (by omega) (Int.le_refl _) (by rw [hz2]; omega) (by omega)
  have e : ((n : Int)).toNat = n := by omega
  rw [e] at h
  have hmd : madeCells #[.bool false] n = (bls (List.replicate n false)).toArray := by
    apply Array.toList_inj.1
    rw [toList_madeCells_one]; simp [bls]
  simpa [hz1, Value.cells, hmd] using h
/-- At which places parses end. -/
def endsL (ps : List (Nat × Option Addr × Nat × List Int)) (n : Nat) : List Bool := (List.range (n + 1)).map fun j => ps.any fun p => p.1 == j
theorem endsL_length (ps : List (Nat × Option Addr × Nat × List Int)) (n : Nat) : (endsL ps n).length = n + 1 := by simp [endsL]
theorem endsL_nil (n : Nat) : endsL [] n = List.replicate (n + 1) false := by
  unfold endsL
  apply List.ext_getElem?
  intro j
  rw [List.getElem?_map, List.getElem?_replicate]
  by_cases h : j < n + 1
  · rw [List.getElem?_eq_getElem (by simpa using h), if_pos h]; simp
  · rw [List.getElem?_eq_none (by simpa using h), if_neg h]; rfl
theorem endsL_put (ps : List (Nat × Option Addr × Nat × List Int)) (n : Nat) (p : Nat × Option Addr × Nat × List Int) : (endsL ps n).set p.1 true = endsL (ps ++ [p]) n := by
  unfold endsL
  apply List.ext_getElem?
  intro j
  rw [List.getElem?_set, List.getElem?_map, List.getElem?_map]
  by_cases h : j < n + 1
  · rw [List.getElem?_eq_getElem (by simpa using h)]
    simp only [List.getElem_range, Option.map_some, List.length_map, List.length_range]
    by_cases e : p.1 = j
    · rw [if_pos e, if_pos (by omega)]; simp [e]
    · rw [if_neg e]; simp [e]
  · rw [List.getElem?_eq_none (by simpa using h)]
    simp only [Option.map_none, List.length_map, List.length_range]
    by_cases e : p.1 = j
    · rw [if_pos e, if_neg (by omega)]
    · rw [if_neg e]
set_option maxRecDepth 100000 in
set_option maxHeartbeats 2000000 in
theorem ends_any (A : Option Addr) (oc : Nat) (ps : List (Nat × Option Addr × Nat × List Int)) (n : Nat) (w : World) (h : Reads w w.heap.size 2 A ps.length oc (outW ps)) (hle : ∀ p ∈ ps, p.1 ≤ n) (hn : n ≤ 1048576) (hps : ps.length ≤ 1048576) :
    Calls Try.prog 14 #[.slice A ps.length oc, .int .i64 (n : Int)] w fun e w' => e = .returned (.slice (some ⟨w.heap.size, 0, none⟩) (n + 1) (n + 1)) ∧ Below w.heap.size w w' ∧ Blk w' w.heap.size 4 (bls (endsL ps n)) := by
  have hmk0 := make_bools (n + 1) (by omega)
  rw [← endsL_nil] at hmk0
  have hmk : ∀ u : World, (Instr.makeSlice 38 (.int .i64 ((n : Int) + 1)) (.int .i64 ((n : Int) + 1))).run Try.prog u = .ok (.slice (some ⟨u.heap.size, 0, none⟩) (n + 1) (n + 1)) (u.alloc (.cells (bls (endsL [] n)).toArray 4)) := fun u => by have := hmk0 u; rwa [show ((n + 1 : Nat) : Int) = (n : Int) + 1 from by omega] at this
  have hw1 : IntKind.i64.wrap ((n : Int) + 1) = ((n + 1 : Nat) : Int) := by rw [IntKind.wrap_i64]; omega
  have hoc := h.1
  have hoc2 := h.2.1
  have HR := Lib.hid h
  have HLE := Lib.hid hle
  have HX := Lib.hid (Blk.new w 4 (bls (endsL [] n)))
  have HB := Lib.hid (show Below w.heap.size w (w.alloc (.cells (bls (endsL [] n)).toArray 4)) from (Below.refl _ _).alloc (Nat.le_refl _) _)
  clear h hle hmk0
  go_enter Try.func14, Try.ntmps14
  go_wp2_with fail
  generalize w.alloc (.cells (bls (endsL [] n)).toArray 4) = w1 at *
  go_loopw [6] (fun iv wr => ∃ i : Nat, i ≤ ps.length ∧ iv = .int .i64 (i : Int) ∧ Below w.heap.size w wr ∧ Blk wr w.heap.size 4 (bls (endsL (ps.take i) n))) (fun iv _ => ps.length - (intOf iv).toNat)
  case atStart => exact ⟨0, Nat.zero_le _, rfl, HB.out, by rw [List.take_zero]; exact HX.out⟩
  case round =>
    obtain ⟨i, hi, rfl, hb, hx⟩ := hrel
    have HBW := Lib.hid hb
    have HXW := Lib.hid hx
    clear hb hx
    by_cases hlt : i < ps.length
    · have hlt2 : (i : Int) < (ps.length : Int) := by omega
      obtain ⟨p, hp⟩ : ∃ p, ps[i]? = some p := ⟨_, List.getElem?_eq_getElem hlt⟩
      have hpn := HLE.out p (List.mem_of_getElem? hp)
      obtain ⟨b, off, rfl, hbl, hc⟩ := HR.out.at_ (by omega)
      have c0 : wr.cell? ⟨b, off + i * 2, none⟩ = some (.int .i64 (p.1 : Int)) := by
        refine (HBW.out.cell (p := ⟨b, off + i * 2, none⟩) hbl).trans (hc (i * 2) _ ?_)
        exact (outW_get ps i p hp).1
      have HTK := Lib.hid (show ps.take (i + 1) = ps.take i ++ [p] from by rw [List.take_add_one, hp]; rfl)
      have HP := Lib.hid (endsL_put (ps.take i) n p)
      generalize hpe : p.1 = e at *
      have hge : (0 : Int) ≤ (e : Int) := by omega
      have hle1 : (e : Int) ≤ (n : Int) := by omega
      have hle2 : (e : Int) < ((n + 1 : Nat) : Int) := by omega
      have hle3 : (e : Int) < (n : Int) + 1 := by omega
      have hle4 : e < n + 1 := by omega
      have fz := HXW.out.frozen e
      have lz := HXW.out.lt
      have cz : wr.cell? ⟨w.heap.size, e, none⟩ = some (.bool ((endsL (ps.take i) n)[e]'(by rw [endsL_length]; omega))) := by
        rw [HXW.out.cell]
        exact bls_get (List.getElem?_eq_getElem (by rw [endsL_length]; omega))
      clear hc hp hpe
      go_wp2_with fail
      go_roundw
      case rel =>
        refine ⟨i + 1, by omega, by go_num, Below.kept HBW.out (Kept.setCell _ _) (by simp) HBW.out.size, ?_⟩
        rw [HTK.out, ← HP.out, ← bls_set]
        exact HXW.out.set_ e (.bool true)
      case measure => simp [intOf]; omega
    · obtain rfl : i = ps.length := by omega
      have hlt2 : ¬ ((ps.length : Int) < (ps.length : Int)) := by omega
      go_wp2_with fail
      go_ret
      have := HXW.out
      rw [List.take_length] at this
      exact ⟨rfl, HBW.out, this⟩
set_option maxRecDepth 100000 in
set_option maxHeartbeats 2000000 in
theorem alike_any (A B : Option Addr) (ac bc : Nat) (La Lb : List Bool) (w : World) (ha : Reads w w.heap.size 1 A La.length ac (bls La)) (hb : Reads w w.heap.size 1 B Lb.length bc (bls Lb)) (hl : La.length = Lb.length) (hn : La.length ≤ 1099511627776) :
    Calls Try.prog 13 #[.slice A La.length ac, .slice B Lb.length bc] w fun e w' => e = .returned (.bool (decide (La = Lb))) ∧ Below w.heap.size w w' := by
  have hac := ha.1
  have hac2 := ha.2.1
  have hbc := hb.1
  have hbc2 := hb.2.1
  have HA := Lib.hid ha
  have HB := Lib.hid hb
  rw [← hl] at hbc ⊢
  have HL := Lib.hid hl
  have hq : ∃ q : Bool, q = decide (La = Lb) := ⟨_, rfl⟩
  obtain ⟨q, hq⟩ := hq
  rw [← hq]
  have HQ := Lib.hid hq
  clear ha hb hl hq
  go_enter Try.func13, Try.ntmps13
  go_wp2_with fail
  go_loopw [5] (fun iv wr => ∃ i : Nat, i ≤ La.length ∧ iv = .int .i64 (i : Int) ∧ Below w.heap.size w wr ∧ La.take i = Lb.take i) (fun iv _ => La.length - (intOf iv).toNat)
  case atStart => exact ⟨0, Nat.zero_le _, rfl, Below.refl _ _, by simp⟩
  case round =>
    obtain ⟨i, hi, rfl, hb, hx⟩ := hrel
    have HBW := Lib.hid hb
    have HX := Lib.hid hx
    clear hb hx
    by_cases hlt : i < La.length
    · have hlt2 : (i : Int) < (La.length : Int) := by omega
      have hltb : i < Lb.length := by rw [← HL.out]; exact hlt
      obtain ⟨ba, oa, rfl, hbla, hca⟩ := HA.out.at_ (by omega)
      obtain ⟨bb, ob, rfl, hblb, hcb⟩ := HB.out.at_ (by omega)
      have x0 : wr.cell? ⟨ba, oa + i, none⟩ = some (.bool La[i]) := (HBW.out.cell (p := ⟨ba, oa + i, none⟩) hbla).trans (hca i _ (bls_get (List.getElem?_eq_getElem hlt)))
      have y0 : wr.cell? ⟨bb, ob + i, none⟩ = some (.bool Lb[i]) := (HBW.out.cell (p := ⟨bb, ob + i, none⟩) hblb).trans (hcb i _ (bls_get (List.getElem?_eq_getElem hltb)))
      have HT := Lib.hid (show ∀ x y : Bool, La[i] = x → Lb[i] = y → (x = y → La.take (i + 1) = Lb.take (i + 1)) ∧ (x ≠ y → q = false) from fun x y hx hy => ⟨fun e => by
        rw [List.take_add_one, List.take_add_one, HX.out, List.getElem?_eq_getElem hlt, List.getElem?_eq_getElem hltb, hx, hy, e], fun hne => by
        rw [HQ.out]
        refine decide_eq_false fun e => hne ?_
        rw [← hx, ← hy]
        simp [e]⟩)
      generalize hxe : La[i] = x at *
      generalize hye : Lb[i] = y at *
      have HD := Lib.hid (HT.out x y rfl rfl)
      have dxa : wr.drew.cell? ⟨ba, oa + i, none⟩ = some (.bool x) := x0
      have dya : wr.drew.cell? ⟨bb, ob + i, none⟩ = some (.bool y) := y0
      clear hca hcb hxe hye HT
      cases x with
      | false =>
        cases y with
        | false =>
          go_wp2_with fail
          go_quiet (fail)
          go_wp2_with fail
          go_roundw
          case rel => exact ⟨i + 1, by omega, by go_num, bdrewN HBW.out _, HD.out.1 (by simp)⟩
          case measure => simp [intOf]; omega
        | true =>
          have HF := Lib.hid (HD.out.2 (by simp))
          go_wp2_with fail
          go_quiet (fail)
          go_wp2_with fail
          go_ret
          exact ⟨ret_bool (by rw [HF.out]), bdrewN HBW.out _⟩
      | true =>
        cases y with
        | true =>
          go_wp2_with fail
          go_quiet (fail)
          go_wp2_with fail
          go_roundw
          case rel => exact ⟨i + 1, by omega, by go_num, bdrewN HBW.out _, HD.out.1 (by simp)⟩
          case measure => simp [intOf]; omega
        | false =>
          have HF := Lib.hid (HD.out.2 (by simp))
          go_wp2_with fail
          go_quiet (fail)
          go_wp2_with fail
          go_ret
          exact ⟨ret_bool (by rw [HF.out]), bdrewN HBW.out _⟩
    · obtain rfl : i = La.length := by omega
      have hlt2 : ¬ ((La.length : Int) < (La.length : Int)) := by omega
      have HE := Lib.hid (show q = true from by
        rw [HQ.out]
        have := HX.out
        rw [List.take_length, HL.out, List.take_length] at this
        exact decide_eq_true this)
      go_wp2_with fail
      go_ret
      exact ⟨ret_bool (by rw [HE.out]), HBW.out⟩
end Go.Proofs.Ytjeljlgjkjeloaa
/- MeaningTurned: what the parses of the three trees have in common. No program here. -/
namespace Go.Proofs.Ytjeljlgjkjeloaa
open Go.Proofs.Ytjeljlgjkjeloaa.Tr Go.Proofs.Ytjeljlgjkjeloaa.Mach

abbrev Ps := List (Nat × Option Addr × Nat × List Int)
theorem nodup_le : ∀ {l l' : List Nat}, l.Nodup → (∀ x ∈ l, x ∈ l') → l.length ≤ l'.length
  | [], _, _, _ => Nat.zero_le _
  | x :: r, l', hn, hs => by
    rw [List.nodup_cons] at hn
    have hx := hs x List.mem_cons_self
    have := nodup_le (l := r) (l' := l'.erase x) hn.2 fun y hy => (List.mem_erase_of_ne (fun e => hn.1 (by rw [← e]; exact hy))).2 (hs y (List.mem_cons_of_mem _ hy))
    rw [List.length_erase_of_mem hx] at this
    have hl := List.length_pos_of_mem hx
    rw [List.length_cons]
    omega
theorem ends_lt {t : List Int} {at_ : Nat} {u : Mean.Un} {s : Tr.Tr} {nt : List Int} {s' : Mean.St} {ps : Ps} (hsh : shU u = unfS s) (hall : allB s = true) (hnd : (u.all.map Mean.Un.ad).Nodup) (h : Mean.One t at_ st0 (.beg u at_ nt .top) s') (ho : s'.out = ps.map fun p => (p.1, p.2.2.2)) (j : Nat) :
    j ∈ ps.map (·.1) ↔ LT t s at_ j := by
  rw [← lead_lt hsh hall, ← Mean.ends_are hnd h (fun _ => rfl) (fun j ⟨p, hp, _⟩ => by cases hp) j]
  unfold Mean.St.ends
  rw [ho]
  simp only [List.mem_map]
  constructor
  · rintro ⟨p, hp, rfl⟩; exact ⟨(p.1, p.2.2.2), ⟨p, hp, rfl⟩, rfl⟩
  · rintro ⟨_, ⟨p, hp, rfl⟩, rfl⟩; exact ⟨p, hp, rfl⟩
theorem fst_out {s' : Mean.St} {ps : Ps} (ho : s'.out = ps.map fun p => (p.1, p.2.2.2)) : s'.out.map (·.1) = ps.map (·.1) := by rw [ho, List.map_map]; rfl
theorem endsL_same {a b : Ps} (h : ∀ j, j ∈ a.map (·.1) ↔ j ∈ b.map (·.1)) (n : Nat) : endsL a n = endsL b n := by
  unfold endsL
  refine List.map_congr_left fun j _ => ?_
  rw [Bool.eq_iff_iff, List.any_eq_true, List.any_eq_true]
  have := h j
  simp only [List.mem_map] at this
  simpa using this
theorem turned_plain {t : List Int} {at_ : Nat} {u1 u2 u3 : Mean.Un} {tr tr2 : Tr.Tr} {n1 n2 n3 : List Int} {a b c : Mean.St} {p1 p2 p3 : Ps} (hso : soundB tr = true) (hat : at_ ≤ t.length) (hT : TurnR tr tr2)
    (h1 : shU u1 = unfS tr) (h2 : shU u2 = unfS tr2) (h3 : shU u3 = unfS (bareS tr)) (d1 : (u1.all.map Mean.Un.ad).Nodup) (d2 : (u2.all.map Mean.Un.ad).Nodup) (d3 : (u3.all.map Mean.Un.ad).Nodup)
    (o1 : Mean.One t at_ st0 (.beg u1 at_ n1 .top) a) (o2 : Mean.One t at_ st0 (.beg u2 at_ n2 .top) b) (o3 : Mean.One t at_ st0 (.beg u3 at_ n3 .top) c)
    (e1 : a.out = p1.map fun p => (p.1, p.2.2.2)) (e2 : b.out = p2.map fun p => (p.1, p.2.2.2)) (e3 : c.out = p3.map fun p => (p.1, p.2.2.2)) (g1 : (a.out.map (·.1)).Nodup) (g2 : (b.out.map (·.1)).Nodup) (n : Nat) :
    p1.length = p2.length ∧ endsL p1 n = endsL p2 n ∧ p1.map (·.1) = p3.map (·.1) := by
  have hall := sound_parts hso
  have hall2 : allB tr2 = true := by rw [(turn_same hT).1]; exact hall
  have hm : ∀ j, j ∈ p1.map (·.1) ↔ j ∈ p2.map (·.1) := fun j => by
    rw [ends_lt h1 hall d1 o1 e1, ends_lt h2 hall2 d2 o2 e2]
    exact turn_lt hT at_ j
  rw [fst_out e1] at g1
  rw [fst_out e2] at g2
  refine ⟨?_, endsL_same hm n, ?_⟩
  · have l1 := nodup_le g1 fun x hx => (hm x).1 hx
    have l2 := nodup_le g2 fun x hx => (hm x).2 hx
    rw [List.length_map, List.length_map] at l1 l2
    omega
  · rw [← fst_out e1, ← fst_out e3]
    have hok := all_ok u1 (g := greatest tr) (by rw [h1]; exact unf_ok tr hall)
    refine Mean.bare_out (u := u1) (v := u3) (by rw [h3, h1, unf_bare tr hall]) d1 d3 (all_closed u1) (all_closed u3) (fun x hx h7 e => ?_) hat o1 o3
    have := (hok x hx).2.2.2.2 (.inl h7)
    rw [e] at this
    simp at this
end Go.Proofs.Ytjeljlgjkjeloaa
