/- meaning.unfolded: its closure times. -/
import Derived.Test.YtjeljlgjkjeloaaQUf1
namespace Go.Proofs.Ytjeljlgjkjeloaa
open Go.RowKit Go.Proofs.Ytjeljlgjkjeloaa.Tr

/-- What stands while the row of a repeat grows. -/
structure RepOk (w1 : World) (S : Nat → Prop) (b0 bx bo nb b off sc : Nat) (x : Ta) (w : World) (v : Value) (us : List Mean.Un) : Prop where
  kept : Kept w1 w [nb]
  row : RowU w S w1.heap.size nb [.int .i64 4, .slice none 0 0, .int .i64 0, .int .i64 0, .bool false] v us
  x : XOk w S b0 b off sc x
  cx : w.cell? ⟨bx, 0, none⟩ = some (.func (Fn.func 52) #[] #[.pointer (some ⟨b0, 0, none⟩)])
  co : w.cell? ⟨bo, 0, none⟩ = some (.pointer (some ⟨nb, 0, none⟩))
  ne : b0 ≠ nb ∧ bx ≠ nb ∧ bo ≠ nb ∧ b0 < w1.heap.size ∧ bx < w1.heap.size ∧ bo < w1.heap.size
section
variable {w1 w w' : World} {S : Nat → Prop} {b0 bx bo nb b off sc : Nat} {x : Ta} {v v' : Value} {us us' : List Mean.Un}
theorem RepOk.keep (h : RepOk w1 S b0 bx bo nb b off sc x w v us) {L : List Nat} (k : Kept w w' L) (hL : ∀ c ∈ L, c = nb ∨ w1.heap.size ≤ c) (hr : RowU w' S w1.heap.size nb [.int .i64 4, .slice none 0 0, .int .i64 0, .int .i64 0, .bool false] v' us') : RepOk w1 S b0 bx bo nb b off sc x w' v' us' := by
  obtain ⟨n1, n2, n3, n4, n5, n6⟩ := h.ne
  have ho : ∀ c, c ≠ nb → c < w1.heap.size → c ∉ L := fun c h1 h2 hm => by
    rcases hL c hm with e | e
    · exact h1 e
    · omega
  have hs := h.kept.size
  refine ⟨(h.kept.trans k).more fun c hc => ?_, hr, h.x.kept k (ho b0 n1 n4) fun c hc => ho c (h.row.sub c hc).2 (h.row.sub c hc).1, ?_, ?_, h.ne⟩
  · rcases List.mem_append.1 hc with hc | hc
    · exact .inl hc
    · rcases hL c hc with e | e
      · exact .inl (by simp [e])
      · exact .inr e
  · exact (k.cell (p := ⟨bx, 0, none⟩) (Nat.lt_of_lt_of_le n5 hs) (ho bx n2 n5)).trans h.cx
  · exact (k.cell (p := ⟨bo, 0, none⟩) (Nat.lt_of_lt_of_le n6 hs) (ho bo n3 n6)).trans h.co
theorem RepOk.later (h : RepOk w1 S b0 bx bo nb b off sc x w v us) (hb : Below w.heap.size w w') : RepOk w1 S b0 bx bo nb b off sc x w' v us :=
  h.keep (Kept.of_below (L := []) hb) (by simp) (h.row.later hb)
end
set_option maxRecDepth 100000 in
set_option maxHeartbeats 4000000 in
theorem uftimes_any (x : Ta) (hx : UfOk x) (hall : allB x.tr = true) (S : Nat → Prop) (w1 : World) (b0 bx bo nb b off sc m : Nat) (w : World) (v : Value) (us : List Mean.Un) (h : RepOk w1 S b0 bx bo nb b off sc x w v us) (hm : us.length + m ≤ 1048576) :
    Calls Try.prog 54 #[.int .i64 (m : Int), .pointer (some ⟨bo, 0, none⟩), .pointer (some ⟨bx, 0, none⟩)] w fun e w' => e = .returned (.tuple #[]) ∧ ∃ v' us', RepOk w1 S b0 bx bo nb b off sc x w' v' (us ++ us') ∧ shUs us' = List.replicate m (unfS x.tr) := by
  obtain ⟨i0, hi, hz0, hz1, hz2⟩ := info_parts node_info
  have HR0 := Lib.hid h
  have HX := Lib.hid hx
  clear h hx
  go_enter Try.func54, Try.ntmps54
  go_wp2_with fail
  go_loopw [5] (fun iv wr => ∃ (i : Nat) (v' : Value) (us' : List Mean.Un), i ≤ m ∧ iv = .int .i64 (i : Int) ∧ us'.length = i ∧ RepOk w1 S b0 bx bo nb b off sc x wr v' (us ++ us') ∧ shUs us' = List.replicate i (unfS x.tr)) (fun iv _ => m - (intOf iv).toNat)
  case atStart => exact ⟨0, v, [], Nat.zero_le _, rfl, rfl, by rw [List.append_nil]; exact HR0.out, rfl⟩
  case round =>
    obtain ⟨i, v', us', hi0, rfl, hul, hr, hsh⟩ := hrel
    by_cases hlt : i < m
    · have hlt2 : (i : Int) < (m : Int) := by omega
      obtain ⟨A, c, rfl⟩ := own_shape hr.row.own
      have hr2 : RepOk w1 S b0 bx bo nb b off sc x wr.drew (.slice A (us ++ us').length c) (us ++ us') := hr.later (bdrewN (Below.refl _ _) 1)
      have HR2 := Lib.hid hr2
      have HIN := Lib.hid (ufx_any x HX.out hall S b0 b off sc wr.drew hr2.x)
      have HSH := Lib.hid hsh
      obtain ⟨vs, hvs⟩ : ∃ vs, vs = us ++ us' := ⟨_, rfl⟩
      rw [← hvs] at HR2
      have hvl : vs.length + 1 ≤ 1048576 := by rw [hvs, List.length_append]; omega
      have q0 : wr.drew.cell? ⟨bo, 0, none⟩ = some (.pointer (some ⟨nb, 0, none⟩)) := HR2.out.co
      have q1 : wr.drew.cell? ⟨bx, 0, none⟩ = some (.func (Fn.func 52) #[] #[.pointer (some ⟨b0, 0, none⟩)]) := HR2.out.cx
      have q2 : wr.drew.cell? ⟨nb, 5, none⟩ = some (.slice A vs.length c) := HR2.out.row.blk.cell 5
      have HVS := Lib.hid hvs
      clear hr hr2 hsh hvs
      go_wp2_with fail
      go_region_law (first
        | (refine step_callv rfl 52 (.tmp 12) #[] #[] #[.pointer (some ⟨b0, 0, none⟩)] rfl rfl #[] (by simp) (enters0 Try.func52 (by kernel_rfl) (by kernel_rfl)) ?_; refine HIN.out.mono ?_; rintro e w5 ⟨u5, rfl, hsh5, hut5, hb5⟩; have HSH5 := Lib.hid hsh5; have HUT5 := Lib.hid hut5; have HB5 := Lib.hid hb5; have hr5 := HR2.out.later hb5; have r0 : w5.cell? ⟨bo, 0, none⟩ = some (.pointer (some ⟨nb, 0, none⟩)) := hr5.co; have r2 : w5.cell? ⟨nb, 5, none⟩ = some (.slice A vs.length c) := hr5.row.blk.cell 5; have hba5 : Below w5.heap.size w5 (w5.alloc (.cells #[.pointer (some ⟨u5.ad, 0, none⟩)] 59)) := (Below.refl _ _).alloc (Nat.le_refl _) _; have HBA5 := Lib.hid hba5; have hrA := hr5.later hba5; have s0 : (w5.alloc (.cells #[.pointer (some ⟨u5.ad, 0, none⟩)] 59)).cell? ⟨bo, 0, none⟩ = some (.pointer (some ⟨nb, 0, none⟩)) := hrA.co; have s2 : (w5.alloc (.cells #[.pointer (some ⟨u5.ad, 0, none⟩)] 59)).cell? ⟨nb, 5, none⟩ = some (.slice A vs.length c) := hrA.row.blk.cell 5; have HRA := Lib.hid hrA; have HNEW := Lib.hid (Reads.of_own (own_lit w5 w5.heap.size 59 1 1 #[.pointer (some ⟨u5.ad, 0, none⟩)] (uptrs [u5]) (Nat.le_refl _) (by simp [uptrs]) (by simp [uptrs]) (by decide))); clear hsh5 hut5 hb5 hr5 hba5 hrA; refine ⟨_, rfl, ?_⟩; simp only [Act.put, List.getElem_toArray, List.getElem_cons_succ, List.getElem_cons_zero, List.setIfInBounds_toArray, List.set_cons_zero, List.set_cons_succ])
        | (refine step_append_reads rfl (.tmp 11) (.tmp 14) 81 rfl w1.heap.size 59 i0 (.pointer none) 1 8 Try.underlying81 hi hz0 hz1 hz2 rfl (by decide) (.slice A vs.length c) vs.length (uptrs vs) rfl HRA.out.row.own (some ⟨w5.heap.size, 0, none⟩) _ 1 1 (uptrs [u5]) rfl (fun h => by cases h) HNEW.out (fun x hx => by simp only [uptrs, List.map_cons, List.map_nil, List.mem_singleton] at hx; subst hx; rfl) (by unfold maxLen; omega) (by omega) HRA.out.row.base ?_; intro A7 c7 w7 ha7; have HA7 := Lib.hid ha7; have hnb7 := HRA.out.row.blk.grown ha7.grown HRA.out.row.sep; have r5 := hnb7.cell 5; have f5 := hnb7.frozen 5; have hbo7 : w7.cell? ⟨bo, 0, none⟩ = some (.pointer (some ⟨nb, 0, none⟩)) := ((Kept.of_grown' ha7.grown).cell (p := ⟨bo, 0, none⟩) (Nat.lt_of_lt_of_le HRA.out.ne.2.2.2.2.2 HRA.out.kept.size) (fun hm => by have := HRA.out.row.own_ge bo hm; have := HRA.out.ne.2.2.2.2.2; omega)).trans HRA.out.co; clear ha7 hnb7; simp only [Act.put, List.getElem_toArray, List.getElem_cons_succ, List.getElem_cons_zero, List.setIfInBounds_toArray, List.set_cons_zero, List.set_cons_succ]))
      all_goals (go_wp2_with fail)
      all_goals
        have HPUT := Lib.hid (RowU.put (f5 := rfl) HR2.out.row HUT5.out HB5.out HBA5.out HA7.out)
        go_roundw
        case rel => exact ⟨i + 1, _, us' ++ [u5], hlt, by go_num, by rw [List.length_append, hul]; rfl, by rw [← List.append_assoc, ← HVS.out]; exact HR2.out.keep HPUT.out.2.1 (fun c hc => by exact (List.mem_cons.1 hc).elim (fun e => .inl e) (fun e => .inr (HR2.out.row.own_ge c e))) HPUT.out.1, by rw [shUs_map, List.map_append, ← shUs_map, HSH.out, List.map_singleton, HSH5.out, ← List.replicate_succ']⟩
        case measure => simp [intOf]; omega
    · obtain rfl : i = m := by omega
      have hlt2 : ¬ ((i : Int) < (i : Int)) := by omega
      have HRR := Lib.hid hr
      have HSH := Lib.hid hsh
      clear hr hsh
      go_wp2_with fail
      go_end0
      exact ⟨rfl, _, _, HRR.out, HSH.out⟩
end Go.Proofs.Ytjeljlgjkjeloaa
