/- RunesEncodes: the walk of the law. -/
import Derived.Test.YtgljhhlnnedmaaaDoorAwake
import Derived.Test.YtgljhhlnnedmaaaDoorEncode
import Derived.Test.YtgljhhlnnedmaaaDoorRefEncode
import Derived.Test.YtgljhhlnnedmaaaDoorOwnBytes
import Derived.Test.YtgljhhlnnedmaaaDoorGRows
namespace Go.Proofs.YtgljhhlnnedmaaaDoor
open Go.RowKit Go.Proofs.YtgljhhlnnedmaaaDoor.OwnG

/-- What Encode answers, in one form. -/
def encO (l : List Int) : List Int := if l.all dom then encL l else []
def encE (l : List Int) : Int := if l.all dom then 0 else 10
def half (x : Int) : Int := x.tdiv 2
theorem half_bd {x : Int} (h0 : -9223372036854775808 ≤ x) (h1 : x ≤ 9223372036854775807) : -9223372036854775808 ≤ half x ∧ half x ≤ 9223372036854775807 := by
  unfold half
  rcases Int.le_total 0 x with h | h
  · rw [Int.tdiv_eq_ediv_of_nonneg h]; omega
  · have e : x.tdiv 2 = -((-x).tdiv 2) := by rw [Int.neg_tdiv]; omega
    rw [e, Int.tdiv_eq_ediv_of_nonneg (by omega)]; omega
theorem encO_len (l : List Int) : (encO l).length ≤ 4 * l.length := by
  unfold encO; split
  · exact encL_len l
  · simp
theorem encO_bd (l : List Int) : ∀ b ∈ encO l, 0 ≤ b ∧ b ≤ 255 := by
  unfold encO; split
  · rename_i h; exact encL_bd (List.all_eq_true.1 h)
  · simp
theorem enc_one {l : List Int} {B : Nat} {w w' : World} {e : Ending} (h : EncodePost l B w e w') :
    ∃ A c, e = .returned (.tuple #[.slice A (encO l).length c, .int .i64 (encE l)]) ∧ w'.ownsRow B 5 1 (.slice A (encO l).length c) ((encO l).map (Value.int .u8)).length ((encO l).map (Value.int .u8)) ∧ Below B w w' := by
  obtain ⟨v, k, rfl, hc, hb⟩ := h
  unfold encO encE
  rcases hc with ⟨ha, rfl, ho⟩ | ⟨ha, rfl, rfl⟩
  · rw [if_pos ha, if_pos ha]
    obtain ⟨A, c, rfl⟩ := own_shape ho
    exact ⟨A, c, rfl, by rw [List.length_map]; exact ho, hb⟩
  · rw [if_neg (by simp [ha]), if_neg (by simp [ha])]
    exact ⟨none, 0, rfl, World.ownsRow_nil _ _ _ _, hb⟩
/-- The list in memory of its own: the first k halved, two marks behind. -/
def halved (l : List Int) (k : Nat) : List Value := ((l.take k).map half ++ l.drop k ++ [-71, -72]).map (Value.int .i64)
theorem halved_at {l : List Int} {k : Nat} {x : Int} (h : l[k]? = some x) : (halved l k)[k]? = some (.int .i64 x) := by
  have hk := (List.getElem?_eq_some_iff.1 h).1
  unfold halved
  rw [List.getElem?_map, List.append_assoc, List.getElem?_append_right (by simp; omega)]
  have hx : l[k] = x := by rw [List.getElem?_eq_getElem hk] at h; exact Option.some.inj h
  simp [Nat.min_eq_left (Nat.le_of_lt hk), List.drop_eq_getElem_cons hk, hx]
theorem halved_set {l : List Int} {k : Nat} {x : Int} (h : l[k]? = some x) : (halved l k).set k (.int .i64 (half x)) = halved l (k + 1) := by
  have hk := (List.getElem?_eq_some_iff.1 h).1
  have hx : l[k] = x := by rw [List.getElem?_eq_getElem hk] at h; exact Option.some.inj h
  unfold halved
  rw [List.append_assoc, List.map_append, List.set_append_right _ _ (by simp; omega), List.take_add_one, h]
  simp [Nat.min_eq_left (Nat.le_of_lt hk), List.drop_eq_getElem_cons hk, hx]
theorem halved_len (l : List Int) (k : Nat) : (halved l k).length = l.length + 2 := by
  unfold halved; simp; omega
theorem halved_zero (l : List Int) : halved l 0 = (l ++ [-71, -72]).map (Value.int .i64) := by simp [halved]
theorem halved_all (l : List Int) {k : Nat} (h : l.length = k) : halved l k = (l.map half ++ [-71, -72]).map (Value.int .i64) := by
  subst h; simp [halved]
theorem halved_mark (l : List Int) (k : Nat) : (halved l k)[l.length]? = some (.int .i64 (-71)) ∧ (halved l k)[l.length + 1]? = some (.int .i64 (-72)) := by
  have e : ((l.take k).map half ++ l.drop k).length = l.length := by simp; omega
  unfold halved
  rw [List.map_append]
  constructor
  · rw [List.getElem?_append_right (by rw [List.length_map, e]; omega), List.length_map, e, Nat.sub_self]; rfl
  · rw [List.getElem?_append_right (by rw [List.length_map, e]; omega), List.length_map, e, Nat.add_sub_cancel_left]; rfl
theorem splice_two {l : List Int} {n : Nat} (h : l.length = n) : splice ((List.replicate (n + 2) (0 : Int)).map (Value.int .i64)) 0 (l.map (Value.int .i64)) = (l ++ [0, 0]).map (Value.int .i64) := by
  unfold splice; simp [h]
theorem i64_size : (Tryd.prog.info? 3).map (·.size) = some 1 := by kernel_rfl

set_option maxRecDepth 100000 in
set_option maxHeartbeats 4000000 in
theorem encodes_walk (A : Option Addr) (n c : Nat) (l : List Int) (w : World) (hr : Reads w w.heap.size 1 A n c (l.map (Value.int .i64))) (hwf : ∀ x ∈ l, -9223372036854775808 ≤ x ∧ x ≤ 9223372036854775807) (hn : n ≤ 1048576) (hL : LeadsIn w) :
    Calls Tryd.prog 6 #[.slice A n c] w fun e w' => e = .returned (.bool true) ∧ Below w.heap.size w w' := by
  obtain ⟨i0, hi, hz0, hz1, hz2⟩ := info_parts int_info
  obtain ⟨B, hB⟩ : ∃ B, B = w.heap.size := ⟨_, rfl⟩
  rw [← hB] at hr
  have hg0 : 0 < B := by
    obtain ⟨t, fr, h⟩ := hL
    rw [hB]; exact (Array.getElem?_eq_some_iff.1 h).1
  rw [← hB]
  have hB0 : B ≤ w.heap.size := by omega
  have hlen : l.length = n := by have := hr.len; simpa using this
  have HLEN := Lib.hid hlen
  have HR := Lib.hid hr
  have HL := Lib.hid hL
  have HWF := Lib.hid hwf
  have hcap := hr.cap
  have hnc := hr.le
  have HA := Lib.hid (awake_any w hL (by omega))
  have hmk : ∀ u : World, (Instr.makeSlice 29 (.int .i64 ((n : Int) + 2)) (.int .i64 ((n : Int) + 2))).run Tryd.prog u =
      .ok (.slice (some ⟨u.heap.size, 0, none⟩) (n + 2) (n + 2)) (u.alloc (.cells ((List.replicate (n + 2) (0 : Int)).map (Value.int .i64)).toArray 3)) := fun u => by
    have h := run_make (P := Tryd.prog) u 29 3 i0 (.int .i64 0) Tryd.underlying29 hi hz0 .i64 .i64 ((n : Int) + 2) ((n : Int) + 2) (by omega) (Int.le_refl _) (by rw [hz2]; omega) (by omega)
    have e : ((n : Int) + 2).toNat = n + 2 := by omega
    have hmd : madeCells #[.int .i64 0] (n + 2) = ((List.replicate (n + 2) (0 : Int)).map (Value.int .i64)).toArray := by
      apply Array.toList_inj.1
      rw [toList_madeCells_one]; simp
    rw [e] at h
    rw [← hmd]
    simpa [hz1, Value.cells] using h
  clear hB hlen hr hL hwf
  go_enter Tryd.func6, Tryd.ntmps6
  go_wp2_with fail
  refine HA.out.mono ?_
  rintro e w1 ⟨rfl, hb1⟩
  have hb1 : Below B w w1 := hb1.mono hB0
  have hs1 : B ≤ w1.heap.size := Nat.le_trans hB0 hb1.size
  clear HA
  -- the list in memory of its own
  obtain ⟨G, hG⟩ : ∃ G, G = w1.heap.size := ⟨_, rfl⟩
  have hblk : Blk (w1.alloc (.cells ((List.replicate (n + 2) (0 : Int)).map (Value.int .i64)).toArray 3)) w1.heap.size 3 ((List.replicate (n + 2) (0 : Int)).map (Value.int .i64)) := Blk.new _ _ _
  have hrA : Reads (w1.alloc (.cells ((List.replicate (n + 2) (0 : Int)).map (Value.int .i64)).toArray 3)) B 1 A n c (l.map (Value.int .i64)) := (HR.out.below hb1).alloc hs1 _
  have hbA : Below B w (w1.alloc (.cells ((List.replicate (n + 2) (0 : Int)).map (Value.int .i64)).toArray 3)) := hb1.alloc hs1 _
  generalize hX : (List.replicate (n + 2) (0 : Int)).map (Value.int .i64) = X at *
  have HX := Lib.hid hX
  clear hX
  obtain ⟨Y, hY⟩ : ∃ Y, Y = l.map (Value.int .i64) := ⟨_, rfl⟩
  rw [← hY] at hrA
  have HY := Lib.hid hY
  clear hY
  have hYl : Y.length = n := by rw [HY.out, List.length_map]; exact HLEN.out
  have hXl : X.length = n + 2 := by rw [← HX.out]; simp
  have hY1 : ∀ v ∈ Y, v.oneCell' = true := by rw [HY.out]; exact ints_oneCell _ _
  have hcp : 0 < Y.length → ∃ ad, A = some ad ∧ ∀ j v, Y[j]? = some v → (w1.alloc (.cells X.toArray 3)).cell? (ad.add j) = some v := fun h => copied hrA h
  have hmin : Y.length = Nat.min n (n + 2) := by rw [hYl]; exact (Nat.min_eq_left (by omega)).symm
  have hfit : 0 + Y.length ≤ X.length := by omega
  have HYL := Lib.hid hYl
  have HXL := Lib.hid hXl
  have HY1 := Lib.hid hY1
  have HCP := Lib.hid hcp
  have HMIN := Lib.hid hmin
  have HG := Lib.hid hG
  clear hYl hXl hY1 hcp hmin hG
  go_wp2_with ((with_reducible refine wpList_copy_splice rfl (.tmp 25) (.tmp 26) 29 29 rfl 3 Tryd.underlying29 i64_size _ A _ _ _ _ rfl rfl w1.heap.size 0 X 3 hblk.raw Y HMIN.out (fun h => ⟨rfl, HCP.out h⟩) hfit HY1.out B w hbA hs1 ?_); intro w2 hw2 hb2; have hblk2 := Blk.mk hw2.out; rw [← HX.out, HY.out, splice_two HLEN.out, ← HG.out] at hblk2; rw [← HG.out]; clear hw2; have hc1 : w2.cell? ⟨G, n, none⟩ = some (.int .i64 0) := (by rw [hblk2.cell, List.getElem?_map, List.getElem?_append_right (by rw [HLEN.out]; exact Nat.le_refl _), HLEN.out, Nat.sub_self]; rfl); have hc2 : w2.cell? ⟨G, n + 1, none⟩ = some (.int .i64 0) := (by rw [hblk2.cell, List.getElem?_map, List.getElem?_append_right (by rw [HLEN.out]; omega), HLEN.out, Nat.add_sub_cancel_left]; rfl); have hf1 : w2.frozen? ⟨G, n, none⟩ = false := hblk2.frozen _; have hf2 : w2.frozen? ⟨G, n + 1, none⟩ = false := hblk2.frozen _)
  have hk3 : Blk ((w2.setCell ⟨G, n, none⟩ (.int .i64 (-71))).setCell ⟨G, n + 1, none⟩ (.int .i64 (-72))) G 3 (halved l 0) := by
    have := (hblk2.set_ n (.int .i64 (-71))).set_ (n + 1) (.int .i64 (-72))
    have e : (((l ++ [0, 0]).map (Value.int .i64)).set n (.int .i64 (-71))).set (n + 1) (.int .i64 (-72)) = halved l 0 := by
      rw [halved_zero, List.map_append, List.map_append, List.set_append_right _ _ (by rw [List.length_map, HLEN.out]; exact Nat.le_refl _), List.length_map, HLEN.out, Nat.sub_self,
        List.set_append_right _ _ (by rw [List.length_map, HLEN.out]; omega), List.length_map, HLEN.out, Nat.add_sub_cancel_left]
      rfl
    rwa [e] at this
  have hBG : B ≤ G := by rw [HG.out]; exact hs1
  have hb3 : Below B w ((w2.setCell ⟨G, n, none⟩ (.int .i64 (-71))).setCell ⟨G, n + 1, none⟩ (.int .i64 (-72))) := (hb2.setCell (p := ⟨G, n, none⟩) hBG _).setCell (p := ⟨G, n + 1, none⟩) hBG _
  clear hc1 hc2 hf1 hf2 hblk2 hblk hbA hrA hb1 hs1 hb2 HX HY HYL HXL HY1 HCP HMIN HG hfit hmk
  generalize (w2.setCell ⟨G, n, none⟩ (.int .i64 (-71))).setCell ⟨G, n + 1, none⟩ (.int .i64 (-72)) = w3 at *
  have hs3 : B ≤ w3.heap.size := Nat.le_trans hB0 hb3.size
  have HIN := Lib.hid (show ∀ u : World, Blk u G 3 (halved l 0) → Reads u u.heap.size 1 (some ⟨G, 0, none⟩) n (n + 2) (l.map (Value.int .i64)) from fun u hu => by
    have := hu.reads (size := 1) (n := n) (c := n + 2) (by omega) (by omega) (by rw [halved_len, HLEN.out]; omega)
    have e : (l ++ [-71, -72]).take n = l := by rw [← HLEN.out]; exact List.take_left
    rwa [Nat.mul_one, halved_zero, ← List.map_take, e] at this)
  have HIN2 := Lib.hid (show ∀ u : World, Blk u G 3 (halved l n) → Reads u u.heap.size 1 (some ⟨G, 0, none⟩) n (n + 2) ((l.map half).map (Value.int .i64)) from fun u hu => by
    have := hu.reads (size := 1) (n := n) (c := n + 2) (by omega) (by omega) (by rw [halved_len, HLEN.out]; omega)
    have e : (l.map half ++ [-71, -72]).take n = l.map half := by rw [List.take_left' (by rw [List.length_map]; exact HLEN.out)]
    rwa [Nat.mul_one, halved_all l HLEN.out, ← List.map_take, e] at this)
  have hG3 : G < w3.heap.size := hk3.lt
  have hro3 : GRows 5 B w3 [] := GRows.nil
  -- Encode, twice
  have H := Lib.hid (encode_any (some ⟨G, 0, none⟩) n (n + 2) l w3 (HIN.out w3 hk3) hn)
  refine H.out.mono ?_
  intro e w4 h
  obtain ⟨Aa, ca, rfl, ho, hb⟩ := enc_one h
  clear H h
  have hro4 := hro3.add hs3 hb ho
  have hb4 : Below B w w4 := hb3.trans (hb.mono hs3)
  have hs4 : B ≤ w4.heap.size := Nat.le_trans hB0 hb4.size
  have hk4 := hk3.below hb hG3
  have hG4 : G < w4.heap.size := hk4.lt
  clear hb hb3 hs3 hk3 hG3 hro3 ho
  obtain ⟨La, hLa⟩ : ∃ L, L = (encO l).length := ⟨_, rfl⟩
  rw [← hLa] at hro4 ⊢
  have HLa := Lib.hid hLa
  clear hLa
  go_wp2_with fail
  have H := Lib.hid (encode_any (some ⟨G, 0, none⟩) n (n + 2) l w4 (HIN.out w4 hk4) hn)
  refine H.out.mono ?_
  intro e w5 h
  obtain ⟨Ab, cb, rfl, ho, hb⟩ := enc_one h
  clear H h
  have hro5 := hro4.add hs4 hb ho
  have hb5 : Below B w w5 := hb4.trans (hb.mono hs4)
  have hs5 : B ≤ w5.heap.size := Nat.le_trans hB0 hb5.size
  have hk5 := hk4.below hb hG4
  have hG5 : G < w5.heap.size := hk5.lt
  clear hb hb4 hs4 hk4 hG4 hro4 ho
  obtain ⟨Lb, hLb⟩ : ∃ L, L = (encO l).length := ⟨_, rfl⟩
  rw [← hLb] at hro5 ⊢
  have HLb := Lib.hid hLb
  clear hLb
  go_wp2_with fail
  have H := Lib.hid (refEncode_any A n c l w5 ((HR.out.below hb5).more hs5) hn)
  refine H.out.mono ?_
  intro e w6 h
  obtain ⟨Aw, cw, rfl, ho, hb⟩ := enc_one h
  clear H h
  have hro6 := hro5.add hs5 hb ho
  have hb6 : Below B w w6 := hb5.trans (hb.mono hs5)
  have hs6 : B ≤ w6.heap.size := Nat.le_trans hB0 hb6.size
  have hk6 := hk5.below hb hG5
  have hG6 : G < w6.heap.size := hk6.lt
  clear hb hb5 hs5 hk5 hG5 hro5 ho
  obtain ⟨Lw, hLw⟩ : ∃ L, L = (encO l).length := ⟨_, rfl⟩
  rw [← hLw] at hro6 ⊢
  have HLw := Lib.hid hLw
  clear hLw
  have ea : encE l = encE l := rfl
  obtain ⟨E, hE⟩ : ∃ E, E = encE l := ⟨_, rfl⟩
  rw [← hE]
  have HE := Lib.hid hE
  clear hE ea
  obtain ⟨s1, hs⟩ : ∃ s, s = strOfNums (encO l) := ⟨_, rfl⟩
  have STR := Lib.hid (show ∀ (u : World) (X : Option Addr) (k d : Nat), Reads u u.heap.size 1 X k d ((encO l).map (Value.int .u8)) → (convert 25 9 (.slice X k d)).run Tryd.prog u = .ok (.string s1) u from fun u X k d h => by
    rw [hs]; exact h.str (P := Tryd.prog) Tryd.underlying25 Tryd.underlying5 Tryd.underlying9)
  have HS := Lib.hid hs
  clear hs
  have va := STR.out w6 _ _ _ (hro6.reads (A := Aa) (n := La) (c := ca) (by simp) (by rw [List.length_map]; exact HLa.out))
  have vb := STR.out w6 _ _ _ (hro6.reads (A := Ab) (n := Lb) (c := cb) (by simp) (by rw [List.length_map]; exact HLb.out))
  have vw := STR.out w6 _ _ _ (hro6.reads (A := Aw) (n := Lw) (c := cw) (by simp) (by rw [List.length_map]; exact HLw.out))
  have hm1 : w6.cell? ⟨G, n, none⟩ = some (.int .i64 (-71)) := by rw [hk6.cell, ← HLEN.out]; exact (halved_mark l 0).1
  have hm2 : w6.cell? ⟨G, n + 1, none⟩ = some (.int .i64 (-72)) := by rw [hk6.cell, ← HLEN.out]; exact (halved_mark l 0).2
  have hss : (s1.toList != s1.toList) = false := by simp
  have hee : (E != E) = false := by simp
  have hro : GRows 5 B w6 [⟨.slice Aa La ca, (encO l).map (Value.int .u8)⟩, ⟨.slice Ab Lb cb, (encO l).map (Value.int .u8)⟩] := hro6.subl (by simp)
  have HRO := Lib.hid hro
  clear hro6 hro STR
  go_wp2_with fail
  clear va vb vw hm1 hm2 hss hee
  go_loopw [12] (fun i wr => ∃ k : Nat, k ≤ n ∧ i = .int .i64 k ∧ Blk wr G 3 (halved l k) ∧ Below B w wr ∧ GRows 5 B wr [⟨.slice Aa La ca, (encO l).map (Value.int .u8)⟩, ⟨.slice Ab Lb cb, (encO l).map (Value.int .u8)⟩]) (fun i _ => n - (intOf i).toNat)
  case atStart => exact ⟨0, Nat.zero_le _, rfl, hk6, hb6, HRO.out⟩
  case round =>
    obtain ⟨k, hk, rfl, hblk, hbel, hro⟩ := hrel
    have HRK := Lib.hid hro
    clear hro
    by_cases hlt : k < n
    · obtain ⟨x, hxk⟩ : ∃ x, l[k]? = some x := ⟨_, List.getElem?_eq_getElem (by have := HLEN.out; omega)⟩
      obtain ⟨b, off, rfl, hbB, hcx⟩ := HR.out.at_ (by omega)
      have cx : wr.cell? ⟨b, off + k, none⟩ = some (.int .i64 x) := (hbel.cell hbB).trans (hcx k _ (by simp [hxk]))
      have cg : wr.cell? ⟨G, k, none⟩ = some (.int .i64 x) := by rw [hblk.cell]; exact halved_at hxk
      have fg : wr.frozen? ⟨G, k, none⟩ = false := hblk.frozen _
      obtain ⟨hx0, hx1⟩ := HWF.out x (List.mem_of_getElem? hxk)
      have hxx : (x != x) = false := by simp
      have hww : (word x != word x) = false := by simp
      have HXK := Lib.hid hxk
      clear hxk hcx
      go_wp2_with (go_at_call 22; refine (word_any _ _).mono ?_; rintro e w' ⟨rfl, rfl⟩)
      go_quiet ((go_at_call 23; exact Calls.quiet_of_same ((refWord_any _ _).mono fun _ _ ⟨h1, h2⟩ => ⟨h1, h2.symm⟩)))
      go_wp2_with fail
      have hst := (hblk.drewN nq).set_ k (.int .i64 (half x))
      rw [halved_set HXK.out] at hst
      exact ⟨⟨k + 1, by omega, by go_num, hst, (bdrewN hbel nq).setCell (p := ⟨G, k, none⟩) hBG _, (HRK.out.drewN nq).setBlk (hblk.drewN nq) (by decide) k _⟩, by simp [intOf]; omega⟩
    · obtain rfl : k = n := by omega
      have hsr : B ≤ wr.heap.size := Nat.le_trans hB0 hbel.size
      have hGr := hblk.lt
      go_wp2_with fail
      have H := Lib.hid (refEncode_any (some ⟨G, 0, none⟩) k (k + 2) (l.map half) wr (HIN2.out wr hblk) hn)
      refine H.out.mono ?_
      intro e w7 h
      obtain ⟨An, cn, rfl, ho, hb⟩ := enc_one h
      clear H h
      have hb7 : Below B w w7 := hbel.trans (hb.mono hsr)
      have hs7 : B ≤ w7.heap.size := Nat.le_trans hB0 hb7.size
      have hk7 := hblk.below hb hGr
      have ho' := ho
      rw [List.length_map] at ho'
      have hrn := Reads.of_own ho'
      have HRN := Lib.hid hrn
      have hro7 := HRK.out.below hb
      have HRO7 := Lib.hid hro7
      have hGr7 := hk7.lt
      clear hb ho ho' hrn hro7 hbel hblk HRK hsr hGr
      obtain ⟨Ln, hLn⟩ : ∃ L, L = (encO (l.map half)).length := ⟨_, rfl⟩
      rw [← hLn] at HRN ⊢
      have HLn := Lib.hid hLn
      clear hLn
      go_wp2_with fail
      have H := Lib.hid (encode_any (some ⟨G, 0, none⟩) k (k + 2) (l.map half) w7 (HIN2.out w7 hk7) hn)
      refine H.out.mono ?_
      intro e w8 h
      obtain ⟨Ac, cc, rfl, ho, hb⟩ := enc_one h
      clear H h
      have hro8 := HRO7.out.add hs7 hb ho
      have hb8 : Below B w w8 := hb7.trans (hb.mono hs7)
      have hs8 : B ≤ w8.heap.size := Nat.le_trans hB0 hb8.size
      have HRN8 := Lib.hid (HRN.out.below hb)
      have ho' := ho
      rw [List.length_map] at ho'
      have hrc := Reads.of_own ho'
      obtain ⟨Lc, hLc⟩ : ∃ L, L = (encO (l.map half)).length := ⟨_, rfl⟩
      rw [← hLc] at hro8 hrc ⊢
      have HLc := Lib.hid hLc
      obtain ⟨s2, hs⟩ : ∃ s, s = strOfNums (encO (l.map half)) := ⟨_, rfl⟩
      have vn : (convert 25 9 (.slice An Ln cn)).run Tryd.prog w8 = .ok (.string s2) w8 := by
        rw [hs]; exact HRN8.out.str (P := Tryd.prog) Tryd.underlying25 Tryd.underlying5 Tryd.underlying9
      have vc : (convert 25 9 (.slice Ac Lc cc)).run Tryd.prog w8 = .ok (.string s2) w8 := by
        rw [hs]; exact hrc.str (P := Tryd.prog) Tryd.underlying25 Tryd.underlying5 Tryd.underlying9
      have hss : (s2.toList == s2.toList) = true := by simp
      obtain ⟨E2, hE2⟩ : ∃ E, E = encE (l.map half) := ⟨_, rfl⟩
      rw [← hE2]
      have hee : (E2 == E2) = true := by simp
      have HRC := Lib.hid hro8
      clear hb ho ho' hrc hro8 hLc hs hE2
      go_wp2_with fail
      obtain ⟨r, hrow, hown, hap, hN⟩ := (HRC.out.alloc (.cells #[.slice Aa La ca, .slice Ab Lb cb, .slice Ac Lc cc] 25)).rws
      have H := Lib.hid (OwnB.ownBytes_any 3 w8.heap.size B r _ (w8.alloc (.cells #[.slice Aa La ca, .slice Ab Lb cb, .slice Ac Lc cc] 25)) (by decide) (by
          intro j hj
          obtain ⟨x, hx, e⟩ := hN j hj
          rw [e]
          have h1 := encO_len l
          have h2 := encO_len (l.map half)
          rw [List.length_map] at h2
          have h3 := HLEN.out
          simp only [List.mem_append, List.mem_cons, List.not_mem_nil, or_false] at hx
          rcases hx with (rfl | rfl) | rfl <;> (simp only [List.length_map]; omega)) (by simp; omega) (by
          have h := Blk.new w8 25 [.slice Aa La ca, .slice Ab Lb cb, .slice Ac Lc cc]
          have e2 : (List.range 3).map r.v = [.slice Aa La ca, .slice Ab Lb cb, .slice Ac Lc cc] := hrow
          rw [e2]; exact h) hown hap)
      refine H.out.mono ?_
      rintro e w9 ⟨rfl, hb9⟩
      have hbe : Below B w w9 := (hb8.alloc hs8 _).trans hb9
      clear H hb9 hown hap hN hrow
      go_wp2_with fail
      go_ret
      exact ⟨rfl, hbe⟩
end Go.Proofs.YtgljhhlnnedmaaaDoor
