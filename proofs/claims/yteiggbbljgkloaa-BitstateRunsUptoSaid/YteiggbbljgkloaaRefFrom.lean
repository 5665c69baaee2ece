/- heronref12.Machine.from: to begin at a place. -/
import Derived.Test.YteiggbbljgkloaaRefMeet3
import Derived.Test.YteiggbbljgkloaaRunLoop
import Derived.Deep.LoopGhost
namespace Go.Proofs.Yteiggbbljgkloaa
open Go.RowKit Go.Proofs.Yteiggbbljgkloaa.Mach

/-- A pair is met. -/
theorem meet_any (x : Mx) (C : Nat) (LV : Value) (s : MS) (w : World) (t : List Int) (p : Prg) (L : List InV) (i k : Nat)
    (h : Mn x C LV s w) (hf : s.fin = none) (hx : Mcx x p t L) (hok : Ok p t x.k0 { s with todo := .pair i k :: s.todo })
    : Calls Try.prog 31 #[.pointer (some ⟨x.mb, 0, none⟩), .int .i64 (i : Int), .int .i64 (k : Int)] w fun e w' => MeetPost x C (mstep p t x.k0 { s with todo := .pair i k :: s.todo }) e w' := by
  have hjk : JobOk p t x.k0 (.pair i k) := hok.jobs _ List.mem_cons_self
  have hroom := hok.room
  simp only [List.length_cons] at hroom
  have hml := hok.met
  simp only [] at hml
  have hN := hx.hN
  have hml2 : s.met.length = x.N := by rw [hml, hN]
  have hbig := hx.big
  have htl := hx.tl
  have hst := hok.steps
  simp only [] at hst
  have hql := bit_lt hjk
  obtain ⟨v, hv⟩ : ∃ v, L[i]? = some v := ⟨_, List.getElem?_eq_getElem (by have := hx.rp.len; have := hx.nl; have := hjk.1; omega)⟩
  have hxI : p.insts[i]? = some v.I := by rw [hx.pi, insL, List.getElem?_map, hv]; rfl
  have hmay := may_of hx.chk hxI
  have hkk : x.k0 ≤ k ∧ k ≤ x.nt := by have := hjk.2; omega
  have hq2 : bitOf t x.k0 i k < s.met.length := by rw [hml]; exact hql
  by_cases hmm : s.met.getD (bitOf t x.k0 i k) true = true
  · rw [mstep_met (s := { s with todo := .pair i k :: s.todo }) hf rfl hmm]
    exact meet_met x C LV s w t p L i k _ v h hf hx hv hkk rfl hq2 hml2 (by omega) (by omega) hmm
  · have hmm' : s.met.getD (bitOf t x.k0 i k) true = false := by simpa using hmm
    rw [mstep_pair (s := { s with todo := .pair i k :: s.todo }) hf rfl hmm' hxI]
    have hcp := hok.caps
    simp only [] at hcp
    have hcb := (head_of hx.chk).2.2.2.2
    rcases op_cases hmay with e | e | e | e | e | e | e
    · have hxx := may_x hmay (.inl e)
      by_cases hkn : k < x.nt
      · exact meet_rune x C LV s w t p L i k _ v h hf hx hv hkk rfl hq2 hml2 (by omega) (by omega) hmm' e hxx.1 hkn (may_rng hmay e)
      · exact meet_rune_out x C LV s w t p L i k _ v h hf hx hv hkk rfl hq2 hml2 (by omega) (by omega) hmm' e hkn
    · exact meet_alt x C LV s w t p L i k _ v h hf hx hv hkk rfl hq2 hml2 (by omega) (by omega) hmm' e (may_x hmay (.inr (.inl e))).1 (may_y hmay e).1
    · have hga := may_arg hmay e
      exact meet_cap x C LV s w t p L i k _ v h hf hx hv hkk rfl hq2 hml2 (by omega) (by omega) hmm' e (may_x hmay (.inr (.inr (.inl e)))).1 v.I.arg.toNat (by omega) (by omega) (by omega)
    · obtain ⟨j6, hj6, harg⟩ := may_as hmay e
      exact meet_assert x C LV s w t p L i k _ v h hf hx hv hkk rfl hq2 hml2 (by omega) (by omega) hmm' e (may_x hmay (.inr (.inr (.inr (.inl e))))).1 j6 hj6 harg
    · exact meet_match x C LV s w t p L i k _ v h hf hx hv hkk rfl hq2 hml2 (by omega) (by omega) hmm' e
    · exact meet_fail x C LV s w t p L i k _ v h hf hx hv hkk rfl hq2 hml2 (by omega) (by omega) hmm' e
    · exact meet_nop x C LV s w t p L i k _ v h hf hx hv hkk rfl hq2 hml2 (by omega) (by omega) hmm' e (may_x hmay (.inr (.inr (.inr (.inr e))))).1

def FromPost (x : Mx) (f : MS) (e : Ending) (w' : World) : Prop := e = .returned (.bool f.fin.isSome) ∧ ∃ C LV, Mn x C LV f w'
theorem caps_set2 (n i : Nat) (h : i < n) : (List.replicate i (-1 : Int) ++ List.replicate (n - i) 0).set i (-1) = List.replicate (i + 1) (-1) ++ List.replicate (n - (i + 1)) 0 := by
  rw [List.set_append_right _ _ (by simp), List.length_replicate, Nat.sub_self, show n - i = (n - (i + 1)) + 1 from by omega, List.replicate_succ, List.set_cons_zero, List.replicate_succ', List.append_assoc]; rfl
/-- The top of what is to be done, in memory. -/
theorem Mn.top {x : Mx} {C : Nat} {LV : Value} {s : MS} {w : World} {j : Job} {r : List Job} (h : Mn x C LV s w) (ht : s.todo = j :: r) :
    ∃ g c, LV = .slice (some ⟨g, 0, none⟩) (r.length + 1) c ∧ r.length + 1 ≤ c ∧ c ≤ 9223372036854775807 ∧ g < w.heap.size ∧ (∀ q u, (thingVals j)[q]? = some u → w.cell? ⟨g, r.length * 5 + q, none⟩ = some u) ∧
      w.ownsRow x.w0.heap.size 79 5 (.slice (some ⟨g, 0, none⟩) r.length c) r.length (thingRow r) := by
  have ho := h.own
  rw [ht, List.length_cons] at ho
  obtain ⟨g, c, cur, hv, hbg, hh, hnc, hcm, hcs, htk⟩ : ∃ g c cur, LV = .slice (some ⟨g, 0, none⟩) (r.length + 1) c ∧ x.w0.heap.size ≤ g ∧ w.heap[g]? = some (.cells cur 79 (0, 0)) ∧ r.length + 1 ≤ c ∧ c ≤ 9223372036854775807 ∧ cur.size = c * 5 ∧ cur.toList.take ((r.length + 1) * 5) = thingRow (j :: r) := by
    rcases ho.2 with ⟨_, h0⟩ | ⟨g, c, cur, hv, h1, h2, h3, h4, h5, h6⟩
    · simp at h0
    · exact ⟨g, c, cur, hv, h1, h2, h3, h4, h5, h6⟩
  subst hv
  have hG : Blk w g 79 cur.toList := hh
  refine ⟨g, c, rfl, hnc, hcm, hG.lt, ?_, own_shrink (ys := thingVals j) ho (thingRow_length r) (Nat.le_succ _) (by simp)⟩
  intro q u hq
  rw [hG.cell]
  have hq5 : q < 5 := by
    have := (List.getElem?_eq_some_iff.1 hq).1
    rw [thingVals_length] at this; exact this
  have e1 : (cur.toList.take ((r.length + 1) * 5))[r.length * 5 + q]? = cur.toList[r.length * 5 + q]? := List.getElem?_take_of_lt (by omega)
  rw [← e1, htk, thingRow, List.getElem?_append_right (by rw [thingRow_length]; omega), thingRow_length, Nat.add_sub_cancel_left]
  exact hq

set_option maxRecDepth 100000 in
set_option maxHeartbeats 4000000 in
theorem from_any (x : Mx) (CV LV : Value) (met : List Bool) (steps : Nat) (w : World) (t : List Int) (p : Prg) (L : List InV) (b : Nat)
    (hx : Mcx x p t L) (h : Mb x CV (steps : Int) 0 LV met w) (hb : x.k0 ≤ b ∧ b ≤ x.nt) (hm : met.length = x.N) (hst : steps + met.count false ≤ met.length)
    : Calls Try.prog 18 #[.pointer (some ⟨x.mb, 0, none⟩), .int .i64 (b : Int)] w fun e w' => FromPost x (final p t x.k0 (begin_ p b met steps)) e w' := by
  have hcb := (head_of hx.chk).2.2
  rw [hx.hcaps, hx.hstart] at hcb
  obtain ⟨cl, hcl⟩ : ∃ cl : Nat, x.caps = (cl : Int) := ⟨x.caps.toNat, by omega⟩
  have hcl2 : cl ≤ 1002 := by omega
  have c1 : w.cell? ⟨x.mb, 1, none⟩ = some (.int .i64 x.start) := h.mach.cell 1
  have c2 : w.cell? ⟨x.mb, 2, none⟩ = some (.int .i64 (cl : Int)) := by rw [← hcl]; exact h.mach.cell 2
  have c6 : w.cell? ⟨x.mb, 6, none⟩ = some CV := h.mach.cell 6
  have f6 : w.frozen? ⟨x.mb, 6, none⟩ = false := h.mach.frozen 6
  have blt : x.mb < w.heap.size := h.mach.lt
  obtain ⟨iI, hiI, hz0I, hz1I, hz2I⟩ := info_parts int_info
  have hmkC : ∀ u : World, (Instr.makeSlice 25 (.int .i64 (cl : Int)) (.int .i64 (cl : Int))).run Try.prog u =
      .ok (.slice (some ⟨u.heap.size, 0, none⟩) cl cl) (u.alloc (.cells ((List.replicate cl (0 : Int)).map (Value.int .i64)).toArray 3)) := fun u => by
    have h := run_make (P := Try.prog) u 25 3 iI (.int .i64 0) Try.underlying25 hiI hz0I .i64 .i64 (cl : Int) (cl : Int) (by omega) (Int.le_refl _) (by rw [hz2I]; omega) (by omega)
    have hmd : madeCells #[.int .i64 0] cl = ((List.replicate cl (0 : Int)).map (Value.int .i64)).toArray := by
      apply Array.toList_inj.1
      rw [toList_madeCells_one]; simp
    rw [Int.toNat_natCast] at h
    rw [← hmd]
    simpa [hz1I, Value.cells] using h
  have HM := Lib.hid h
  have HX := Lib.hid hx
  have HC := Lib.hid hcl
  clear h hx hcl hiI hz0I hz1I hz2I
  go_enter Try.func18, Try.ntmps18
  go_wp2_with fail
  have hmb1 := Lib.hid ((HM.out.capsed (.slice (some ⟨w.heap.size, 0, none⟩) cl cl)).later ((Below.refl _ _).alloc (Nat.le_refl _) (.cells (Array.replicate cl (.int .i64 0)) 3)))
  have hcp1 := Blk.new (w.setCell ⟨x.mb, 6, none⟩ (.slice (some ⟨w.heap.size, 0, none⟩) cl cl)) 3 (List.replicate cl (.int .i64 0))
  rw [show (w.setCell ⟨x.mb, 6, none⟩ (.slice (some ⟨w.heap.size, 0, none⟩) cl cl)).heap.size = w.heap.size from by simp [World.setCell]] at hcp1
  have HCP := Lib.hid (show Blk ((w.setCell ⟨x.mb, 6, none⟩ (.slice (some ⟨w.heap.size, 0, none⟩) cl cl)).alloc (.cells (Array.replicate cl (.int .i64 0)) 3)) w.heap.size 3 (List.replicate cl (.int .i64 0)) from hcp1)
  have hsz := HM.out.below.size
  clear hcp1 c1 c2 c6 f6 hmkC
  generalize (w.setCell ⟨x.mb, 6, none⟩ (.slice (some ⟨w.heap.size, 0, none⟩) cl cl)).alloc (.cells (Array.replicate cl (.int .i64 0)) 3) = w1 at *
  go_loopw [5] (fun q wr => ∃ i : Nat, i ≤ cl ∧ q = .int .i64 i ∧ Mb x (.slice (some ⟨w.heap.size, 0, none⟩) cl cl) (steps : Int) 0 LV met wr ∧ Blk wr w.heap.size 3 ((List.replicate i (-1 : Int) ++ List.replicate (cl - i) 0).map (Value.int .i64))) (fun q _ => cl - (intOf q).toNat)
  case atStart => exact ⟨0, by omega, rfl, hmb1.out, by simpa using HCP.out⟩
  case round =>
    obtain ⟨i, hi, rfl, hmb, hcp⟩ := hrel
    have d1 : wr.cell? ⟨x.mb, 1, none⟩ = some (.int .i64 x.start) := hmb.mach.cell 1
    have d6 : wr.cell? ⟨x.mb, 6, none⟩ = some (.slice (some ⟨w.heap.size, 0, none⟩) cl cl) := hmb.mach.cell 6
    have dlt : x.mb < wr.heap.size := hmb.mach.lt
    by_cases hlt : i < cl
    · have hlt2 : (i : Int) < (cl : Int) := by omega
      have g1 : wr.cell? ⟨w.heap.size, i, none⟩ = some (.int .i64 0) := by
        rw [hcp.cell, List.getElem?_map, List.getElem?_append_right (by simp), List.length_replicate, Nat.sub_self, List.getElem?_replicate, if_pos (by omega)]; rfl
      have g2 : wr.frozen? ⟨w.heap.size, i, none⟩ = false := hcp.frozen i
      have HB := Lib.hid hmb
      have HP := Lib.hid hcp
      clear hmb hcp
      go_wp2_with fail
      go_roundw
      case rel =>
        refine ⟨i + 1, by omega, by go_num, ?_, ?_⟩
        · exact HB.out.kept (Kept.setCell _ _) (by rw [List.mem_singleton]; exact HB.out.mach.ne_ HP.out (by decide)) (by rw [List.mem_singleton]; exact (HP.out.ne_ HB.out.met (by decide)).symm) (by intro g hg; rw [List.mem_singleton] at hg; rw [hg]; exact hsz)
        · have := HP.out.set_ i (.int .i64 (-1))
          rw [← List.map_set, caps_set2 cl i hlt] at this
          exact this
      case measure => simp [intOf]; omega
    · obtain rfl : i = cl := by omega
      have HB := Lib.hid hmb
      have HP := Lib.hid hcp
      have f9 : wr.frozen? ⟨x.mb, 9, none⟩ = false := hmb.mach.frozen 9
      have d9 : wr.cell? ⟨x.mb, 9, none⟩ = some LV := hmb.mach.cell 9
      clear hmb hcp
      go_wp2_with fail
      have hbeg : begin_ p b met steps = ⟨[.pair x.start.toNat b], met, List.replicate i (-1), steps, none⟩ := by
        unfold begin_; rw [HX.out.hcaps, HX.out.hstart, HC.out, Int.toNat_natCast]
      obtain ⟨s0, hs0⟩ : ∃ s0, s0 = begin_ p b met steps := ⟨_, rfl⟩
      rw [← hs0] at hbeg
      have hok0 : Ok p t x.k0 s0 := by
        rw [hs0]
        exact Ok.start HX.out.chk (by rw [HX.out.tl]; exact HX.out.hk0) (by rw [HX.out.tl]; exact hb) (by rw [hm, HX.out.hN]) hst
      have hf0 : s0.fin = none := by rw [hbeg]
      have HS0 := Lib.hid hs0
      have hsr := HB.out.below.size
      have hmn : Mn x w.heap.size (.slice (some ⟨wr.heap.size, 0, none⟩) 1 1) s0 ((wr.setCell ⟨x.mb, 9, none⟩ (.slice (some ⟨wr.heap.size, 0, none⟩) 1 1)).alloc (.cells #[.bool false, .int .i64 x.start, .int .i64 (b : Int), .int .i64 0, .int .i64 0] 79)) := by
        have hown := own_lit (wr.setCell ⟨x.mb, 9, none⟩ (.slice (some ⟨wr.heap.size, 0, none⟩) 1 1)) x.w0.heap.size 79 5 1 #[.bool false, .int .i64 x.start, .int .i64 (b : Int), .int .i64 0, .int .i64 0] [.bool false, .int .i64 x.start, .int .i64 (b : Int), .int .i64 0, .int .i64 0] (by simpa [World.setCell] using hsr) rfl rfl (by decide)
        rw [show (wr.setCell ⟨x.mb, 9, none⟩ (.slice (some ⟨wr.heap.size, 0, none⟩) 1 1)).heap.size = wr.heap.size from by simp [World.setCell]] at hown
        have hne : w.heap.size ≠ x.mb := HP.out.ne_ HB.out.mach (by decide)
        rw [hbeg]
        refine ⟨?_, hsz, ?_, ?_⟩
        · have := (HB.out.lefted (.slice (some ⟨wr.heap.size, 0, none⟩) 1 1)).later ((Below.refl _ _).alloc (Nat.le_refl _) (.cells #[.bool false, .int .i64 x.start, .int .i64 (b : Int), .int .i64 0, .int .i64 0] 79))
          simpa using this
        · have := (HP.out.far (p := ⟨x.mb, 9, none⟩) hne (.slice (some ⟨wr.heap.size, 0, none⟩) 1 1)).alloc (.cells #[.bool false, .int .i64 x.start, .int .i64 (b : Int), .int .i64 0, .int .i64 0] 79)
          simpa using this
        · have hst0 : 0 ≤ x.start := by omega
          simpa [thingRow, thingVals, Int.toNat_of_nonneg hst0] using hown
      have HMN := Lib.hid hmn
      clear hmn d1 d6 d9 f9 dlt HB HP
      generalize (wr.setCell ⟨x.mb, 9, none⟩ (.slice (some ⟨wr.heap.size, 0, none⟩) 1 1)).alloc (.cells #[.bool false, .int .i64 x.start, .int .i64 (b : Int), .int .i64 0, .int .i64 0] 79) = w2 at *
      clear hbeg hs0
      have HOK0 := Lib.hid hok0
      have HF0 := Lib.hid hf0
      clear hok0 hf0
      go_loopg [6] (meas s0) (fun m q wr => ∃ s LV, Ok p t x.k0 s ∧ s.fin = none ∧ meas s ≤ m ∧ (∃ j, s = iter p t x.k0 j s0) ∧ Mn x w.heap.size LV s wr)
      case atStart => exact ⟨s0, _, HOK0.out, HF0.out, Nat.le_refl _, ⟨0, rfl⟩, HMN.out⟩
      case round =>
        obtain ⟨s, LV2, hok, hf, hme, ⟨j, hj⟩, hmn⟩ := hrel
        have hroom := hok.room
        have hml := hok.met
        have hbig := HX.out.big
        have hN := HX.out.hN
        have d9 : wr.cell? ⟨x.mb, 9, none⟩ = some LV2 := hmn.mb.mach.cell 9
        have d6 : wr.cell? ⟨x.mb, 6, none⟩ = some (.slice (some ⟨w.heap.size, 0, none⟩) s.caps.length s.caps.length) := hmn.mb.mach.cell 6
        have f9 : wr.frozen? ⟨x.mb, 9, none⟩ = false := hmn.mb.mach.frozen 9
        have dlt : x.mb < wr.heap.size := hmn.mb.mach.lt
        have HMR := Lib.hid hmn
        have HF := Lib.hid hf
        have HOK := Lib.hid hok
        have HJ := Lib.hid hj
        match ht : s.todo with
        | [] =>
          obtain ⟨LA, lc, hLV⟩ := own_shape hmn.own
          rw [ht, List.length_nil] at hLV
          subst hLV
          have HFIN := Lib.hid (show s = final p t x.k0 (begin_ p b met steps) from by
            have hh : halted (iter p t x.k0 j s0) := by rw [← hj]; exact .inr ht
            rw [← HS0.out, ← final_of p t x.k0 hh, ← hj])
          have HT := Lib.hid ht
          clear hok hf hj hmn ht hroom hml hN HOK HJ HX HS0 HOK0 HF0 hme
          go_wp2_with fail
          go_ret
          rw [FromPost, ← HFIN.out]
          exact ⟨ret_bool (by rw [HF.out]; rfl), _, _, HMR.out⟩
        | .back cc old :: r =>
          obtain ⟨g, lc, hLV, hle, hcap, hg, hcells, hown⟩ := hmn.top ht
          subst hLV
          have t0 := hcells 0 _ rfl
          have t1 := hcells 1 _ rfl
          have t2 := hcells 2 _ rfl
          have t3 := hcells 3 _ rfl
          have t4 := hcells 4 _ rfl
          rw [Nat.add_zero] at t0
          have hgn : g ≠ x.mb := fun e => hmn.far.2.2.1 (by rw [← e]; rfl)
          have hM3 := Lib.hid ((hmn.turned Kept.refl hown (fun e => hgn (by simpa [Value.ownBlock, eq_comm] using e))).alloc (.cells #[.bool true, .int .i64 0, .int .i64 0, .int .i64 (cc : Int), .int .i64 old] 79))
          have hB3 := Lib.hid (show Blk ((wr.setCell ⟨x.mb, 9, none⟩ (.slice (some ⟨g, 0, none⟩) r.length lc)).alloc (.cells #[.bool true, .int .i64 0, .int .i64 0, .int .i64 (cc : Int), .int .i64 old] 79)) wr.heap.size 79 [.bool true, .int .i64 0, .int .i64 0, .int .i64 (cc : Int), .int .i64 old] from by
            have := Blk.new (wr.setCell ⟨x.mb, 9, none⟩ (.slice (some ⟨g, 0, none⟩) r.length lc)) 79 [.bool true, .int .i64 0, .int .i64 0, .int .i64 (cc : Int), .int .i64 old]
            rw [show (wr.setCell ⟨x.mb, 9, none⟩ (.slice (some ⟨g, 0, none⟩) r.length lc)).heap.size = wr.heap.size from by simp [World.setCell]] at this
            exact this)
          have hjk := hok.jobs _ (by rw [ht]; exact List.mem_cons_self)
          rw [ht, List.length_cons] at hroom
          have hrl : r.length ≤ 1000000000 := by omega
          have hnh : ¬ halted s := by
            rintro (h | h)
            · exact h hf
            · rw [ht] at h; cases h
          have HLESS := Lib.hid (step_less p t x.k0 hnh)
          have HSTEP := Lib.hid (Ok.step HX.out.chk hok)
          have HT := Lib.hid ht
          have HJK := Lib.hid hjk
          have HGN := Lib.hid hgn
          clear hok hf hj hmn ht hroom hml hN hcells hown hjk hnh hgn HOK0 HF0
          go_wp2_with fail
          have hcc : cc < s.caps.length := by rw [HOK.out.caps]; exact HJK.out
          have hcc2 : (cc : Int) < (s.caps.length : Int) := by omega
          obtain ⟨z, hz⟩ : ∃ z, s.caps[cc]? = some z := ⟨_, List.getElem?_eq_getElem hcc⟩
          have hce := hM3.out.capt.cell cc
          simp only [] at hce
          rw [List.getElem?_map, hz] at hce
          have HZ := Lib.hid hz
          clear hz d9 d6 f9 dlt t0 t1 t2 t3 t4
          generalize (wr.setCell ⟨x.mb, 9, none⟩ (.slice (some ⟨g, 0, none⟩) r.length lc)).alloc (.cells #[.bool true, .int .i64 0, .int .i64 0, .int .i64 (cc : Int), .int .i64 old] 79) = w3 at *
          have g1 : w3.cell? ⟨w.heap.size, cc, none⟩ = some (.int .i64 z) := hce
          have g2 : w3.frozen? ⟨w.heap.size, cc, none⟩ = false := hM3.out.capt.frozen cc
          have g3 : w3.cell? ⟨x.mb, 6, none⟩ = some (.slice (some ⟨w.heap.size, 0, none⟩) s.caps.length s.caps.length) := hM3.out.mb.mach.cell 6
          have g4 : w3.cell? ⟨wr.heap.size, 3, none⟩ = some (.int .i64 (cc : Int)) := hB3.out.cell 3
          have g5 : w3.cell? ⟨wr.heap.size, 4, none⟩ = some (.int .i64 old) := hB3.out.cell 4
          clear hce
          go_region
          all_goals
            (try simp only [Exit.then])
            go_wp2_with fail
            go_roundg (meas (mstep p t x.k0 s))
            case measure => have := HLESS.out; omega
            case rel =>
              refine ⟨_, .slice (some ⟨g, 0, none⟩) r.length lc, HSTEP.out, ?_, Nat.le_refl _, ⟨j + 1, by rw [iter_succ', ← HJ.out]⟩, ?_⟩
              · rw [mstep_back HF.out HT.out]; exact HF.out
              · rw [mstep_back HF.out HT.out]
                exact (hM3.out.captured cc old).drewN 1
        | .pair i k :: r =>
          obtain ⟨g, lc, hLV, hle, hcap, hg, hcells, hown⟩ := hmn.top ht
          subst hLV
          have t0 := hcells 0 _ rfl
          have t1 := hcells 1 _ rfl
          have t2 := hcells 2 _ rfl
          have t3 := hcells 3 _ rfl
          have t4 := hcells 4 _ rfl
          rw [Nat.add_zero] at t0
          have hgn : g ≠ x.mb := fun e => hmn.far.2.2.1 (by rw [← e]; rfl)
          have hM3 := Lib.hid ((hmn.turned Kept.refl hown (fun e => hgn (by simpa [Value.ownBlock, eq_comm] using e))).alloc (.cells #[.bool false, .int .i64 (i : Int), .int .i64 (k : Int), .int .i64 0, .int .i64 0] 79))
          have hB3 := Lib.hid (show Blk ((wr.setCell ⟨x.mb, 9, none⟩ (.slice (some ⟨g, 0, none⟩) r.length lc)).alloc (.cells #[.bool false, .int .i64 (i : Int), .int .i64 (k : Int), .int .i64 0, .int .i64 0] 79)) wr.heap.size 79 [.bool false, .int .i64 (i : Int), .int .i64 (k : Int), .int .i64 0, .int .i64 0] from by
            have := Blk.new (wr.setCell ⟨x.mb, 9, none⟩ (.slice (some ⟨g, 0, none⟩) r.length lc)) 79 [.bool false, .int .i64 (i : Int), .int .i64 (k : Int), .int .i64 0, .int .i64 0]
            rw [show (wr.setCell ⟨x.mb, 9, none⟩ (.slice (some ⟨g, 0, none⟩) r.length lc)).heap.size = wr.heap.size from by simp [World.setCell]] at this
            exact this)
          have hjk := hok.jobs _ (by rw [ht]; exact List.mem_cons_self)
          rw [ht, List.length_cons] at hroom
          have hrl : r.length ≤ 1000000000 := by omega
          have hnh : ¬ halted s := by
            rintro (h | h)
            · exact h hf
            · rw [ht] at h; cases h
          have HLESS := Lib.hid (step_less p t x.k0 hnh)
          have HSTEP := Lib.hid (Ok.step HX.out.chk hok)
          have HT := Lib.hid ht
          have HJK := Lib.hid hjk
          have HGN := Lib.hid hgn
          clear hok hf hj hmn ht hroom hml hN hcells hown hjk hnh hgn HOK0 HF0
          have hse : ({ s with todo := .pair i k :: r } : MS) = s := by rw [← HT.out]
          have HME := meet_any x w.heap.size _ { s with todo := r } _ t p L i k hM3.out HF.out HX.out (by rw [hse]; exact HOK.out)
          simp only [] at HME
          rw [hse] at HME
          cases hfin : (mstep p t x.k0 s).fin with
          | none =>
            have HFN := Lib.hid hfin
            have HMF := HME
            simp only [MeetPost, hfin, Option.isSome_none] at HMF
            have HMF := Lib.hid HMF
            clear HME hfin
            go_wp2_with (go_at_call 31; refine HMF.out.mono ?_; rintro e w4 ⟨rfl, LV4, hm4⟩; have HM4 := Lib.hid hm4; clear hm4; simp only [])
            go_roundg (meas (mstep p t x.k0 s))
            case measure => have := HLESS.out; omega
            case rel => exact ⟨_, LV4, HSTEP.out, HFN.out, Nat.le_refl _, ⟨j + 1, by rw [iter_succ', ← HJ.out]⟩, HM4.out⟩
          | some wh =>
            have HFIN := Lib.hid (show mstep p t x.k0 s = final p t x.k0 (begin_ p b met steps) from by
              have hh : halted (iter p t x.k0 (j + 1) s0) := by rw [iter_succ', ← HJ.out]; exact .inl (by rw [hfin]; simp)
              rw [← HS0.out, ← final_of p t x.k0 hh, iter_succ', ← HJ.out])
            have HFN := Lib.hid hfin
            have HMF := HME
            simp only [MeetPost, hfin, Option.isSome_some] at HMF
            have HMF := Lib.hid HMF
            clear HME hfin
            go_wp2_with (go_at_call 31; refine HMF.out.mono ?_; rintro e w4 ⟨rfl, LV4, hm4⟩; have HM4 := Lib.hid hm4; clear hm4; simp only [])
            go_ret
            rw [FromPost, ← HFIN.out]
            exact ⟨ret_bool (by rw [HFN.out]; rfl), _, _, HM4.out⟩
end Go.Proofs.Yteiggbbljgkloaa
