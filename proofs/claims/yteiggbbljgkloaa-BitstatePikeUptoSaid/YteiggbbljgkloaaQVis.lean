/- pike.visit: what stands in memory in its loop. -/
import Derived.Test.YteiggbbljgkloaaQPikeFn
namespace Go.Proofs.Yteiggbbljgkloaa
open Go.RowKit Go.Proofs.Yteiggbbljgkloaa.Mach

/-- visit has begun at we; LF: the threads that are left, the top last. -/
structure Vi (x : Px) (we : World) (LV0 NV0 LF : Value) (left : List TV) (LV NV : Value) (met : List Nat) (nxt : List TV) (k : Nat) (bits : Int) (f : Option Fd) (st : Int) (w : World) : Prop where
  pk : Pk x LV NV met nxt k bits f st w
  lf : w.ownsRow x.B 95 2 LF left.length (thsRow x.cl left.reverse)
  fr : ∀ q, LF.ownBlock = some q → we.heap.size ≤ q ∧ NV.ownBlock ≠ some q
  ok : ∀ v ∈ left, Tok x LV.ownBlock w v
  kp : Kept we w (x.rb :: x.sb :: x.ab :: (LV0.ownBlock.toList ++ NV0.ownBlock.toList))
  lo : LV.ownBlock = LV0.ownBlock ∨ ∃ q, we.heap.size ≤ q ∧ LV.ownBlock = some q
  no : NV.ownBlock = NV0.ownBlock ∨ ∃ q, we.heap.size ≤ q ∧ NV.ownBlock = some q
section
variable {x : Px} {we : World} {LV0 NV0 LF LF' LV NV LV' NV' : Value} {left l : List TV} {met met' : List Nat} {nxt : List TV} {k : Nat} {bits st : Int} {f : Option Fd} {w w' : World} {v : TV}
theorem Vi.later (h : Vi x we LV0 NV0 LF left LV NV met nxt k bits f st w) (hb : Below w.heap.size w w') : Vi x we LV0 NV0 LF left LV NV met nxt k bits f st w' :=
  ⟨h.pk.later hb, own_below h.lf hb, h.fr, fun v hv => (h.ok v hv).kept (Kept.of_below (L := []) hb) (by simp), (h.kp.trans (Kept.of_below (L := []) hb)).more (by intro q hq; rw [List.append_nil] at hq; exact .inl hq), h.lo, h.no⟩
theorem Vi.alloc (h : Vi x we LV0 NV0 LF left LV NV met nxt k bits f st w) (o : Obj) : Vi x we LV0 NV0 LF left LV NV met nxt k bits f st (w.alloc o) := h.later ((Below.refl _ _).alloc (Nat.le_refl _) _)
theorem Vi.drewN (h : Vi x we LV0 NV0 LF left LV NV met nxt k bits f st w) (n : Nat) : Vi x we LV0 NV0 LF left LV NV met nxt k bits f st (w.drewN n) := h.later (bdrewN (Below.refl _ _) n)
theorem Vi.drew (h : Vi x we LV0 NV0 LF left LV NV met nxt k bits f st w) : Vi x we LV0 NV0 LF left LV NV met nxt k bits f st w.drew := h.drewN 1
theorem Vi.apart (h : Vi x we LV0 NV0 LF left LV NV met nxt k bits f st w) : some x.rb ≠ LF.ownBlock ∧ some x.sb ≠ LF.ownBlock ∧ some x.ab ≠ LF.ownBlock ∧ (∀ q, LF.ownBlock = some q → LV.ownBlock ≠ some q ∧ q < w.heap.size) := by
  obtain ⟨ats, h1, h2, h3⟩ := h.pk.met.at_
  refine ⟨blk_apart h.lf h.pk.run (by decide), blk_apart h.lf h.pk.met.blk (by decide), blk_apart h.lf h2 (by decide), fun q hq => ⟨?_, own_lt h.lf q hq⟩⟩
  intro hl
  obtain ⟨cs, hb⟩ := own_blk h.lf q hq
  exact blk_apart h.pk.met.own hb (by decide) hl.symm
theorem Vi.stepped (h : Vi x we LV0 NV0 LF left LV NV met nxt k bits f st w) (z : Int) : Vi x we LV0 NV0 LF left LV NV met nxt k bits f z (w.setCell ⟨x.rb, 12, none⟩ (.int .i64 z)) := by
  have kk : Kept w (w.setCell ⟨x.rb, 12, none⟩ (.int .i64 z)) [x.rb] := Kept.setCell _ _
  have hL : ∀ q ∈ [x.rb], Wr x LV w q := by intro q hq; rw [List.mem_singleton] at hq; rw [hq]; exact h.pk.wrR
  exact ⟨h.pk.stepped z, own_kept h.lf kk (fun q hq hm => by rw [List.mem_singleton] at hm; exact h.apart.1 (by rw [hq, hm])), h.fr, fun v hv => (h.ok v hv).kept kk hL, (h.kp.trans kk).more (by intro q hq; rw [List.mem_append, List.mem_singleton] at hq; rcases hq with hq | rfl; exact .inl hq; exact .inl List.mem_cons_self), h.lo, h.no⟩
theorem Vi.found (h : Vi x we LV0 NV0 LF left LV NV met nxt k bits f st w) (d : Fd) (hd : Cok x LV.ownBlock w d.g d.c) :
    Vi x we LV0 NV0 LF left LV NV met nxt k bits (some d) st ((((w.setCell ⟨x.rb, 8, none⟩ (.bool true)).setCell ⟨x.rb, 9, none⟩ (.slice (some ⟨d.g, 0, none⟩) x.cl x.cl)).setCell ⟨x.rb, 10, none⟩ (.int .i64 d.a)).setCell ⟨x.rb, 11, none⟩ (.int .i64 0)) := by
  have kk : Kept w ((((w.setCell ⟨x.rb, 8, none⟩ (.bool true)).setCell ⟨x.rb, 9, none⟩ (.slice (some ⟨d.g, 0, none⟩) x.cl x.cl)).setCell ⟨x.rb, 10, none⟩ (.int .i64 d.a)).setCell ⟨x.rb, 11, none⟩ (.int .i64 0)) [x.rb] :=
    ((((Kept.setCell (w := w) ⟨x.rb, 8, none⟩ (.bool true)).trans (Kept.setCell ⟨x.rb, 9, none⟩ _)).trans (Kept.setCell ⟨x.rb, 10, none⟩ _)).trans (Kept.setCell ⟨x.rb, 11, none⟩ _)).more (by intro k hk; simp at hk ⊢; exact .inl hk)
  have hL : ∀ q ∈ [x.rb], Wr x LV w q := by intro q hq; rw [List.mem_singleton] at hq; rw [hq]; exact h.pk.wrR
  exact ⟨h.pk.found d hd, own_kept h.lf kk (fun q hq hm => by rw [List.mem_singleton] at hm; exact h.apart.1 (by rw [hq, hm])), h.fr, fun v hv => (h.ok v hv).kept kk hL, (h.kp.trans kk).more (by intro q hq; rw [List.mem_append, List.mem_singleton] at hq; rcases hq with hq | rfl; exact .inl hq; exact .inl List.mem_cons_self), h.lo, h.no⟩
theorem Vi.added (h : Vi x we LV0 NV0 LF left LV NV met nxt k bits f st w) (kk : Kept w w' (x.sb :: x.ab :: LV.ownBlock.toList)) (hs : SetM w' x.B x.sb x.ab LV' x.n met') (hb : LV'.ownBlock = LV.ownBlock ∨ ∃ q, w.heap.size ≤ q ∧ LV'.ownBlock = some q) : Vi x we LV0 NV0 LF left LV' NV met' nxt k bits f st w' := by
  obtain ⟨a1, a2, a3, a4⟩ := h.apart
  have hL : ∀ q ∈ x.sb :: x.ab :: LV.ownBlock.toList, Wr x LV w q := by
    intro q hq
    simp only [List.mem_cons] at hq
    rcases hq with rfl | rfl | hq
    · exact h.pk.wrS
    · exact h.pk.wrA
    · exact h.pk.wrL q hq
  refine ⟨h.pk.added kk hs hb, own_kept h.lf kk ?_, h.fr, fun v hv => (h.ok v hv).go kk hL hb, (h.kp.trans kk).more ?_, ?_, h.no⟩
  · intro q hq hm
    simp only [List.mem_cons, Option.mem_toList] at hm
    rcases hm with rfl | rfl | hm
    · exact a2 hq.symm
    · exact a3 hq.symm
    · exact (a4 q hq).1 hm
  · intro q hq
    simp only [List.mem_append, List.mem_cons, Option.mem_toList] at hq ⊢
    rcases hq with hq | rfl | rfl | hq
    · exact .inl hq
    · exact .inl (.inr (.inl rfl))
    · exact .inl (.inr (.inr (.inl rfl)))
    · rcases h.lo with e | ⟨z, hz, e⟩
      · exact .inl (.inr (.inr (.inr (.inl (e ▸ hq)))))
      · rw [e] at hq
        exact .inr (by rw [← Option.some.inj hq]; exact hz)
  · rcases hb with e | ⟨q, hq, e⟩
    · rw [e]; exact h.lo
    · exact .inr ⟨q, Nat.le_trans h.kp.size hq, e⟩
theorem Vi.putted (h : Vi x we LV0 NV0 LF left LV NV met nxt k bits f st w) {nxt' : List TV} (hp : Pk x LV NV' met nxt' k bits f st w') (kk : Kept w w' (x.rb :: NV.ownBlock.toList)) (hb : NV'.ownBlock = NV.ownBlock ∨ ∃ q, w.heap.size ≤ q ∧ NV'.ownBlock = some q) : Vi x we LV0 NV0 LF left LV NV' met nxt' k bits f st w' := by
  obtain ⟨a1, a2, a3, a4⟩ := h.apart
  have hL : ∀ q ∈ x.rb :: NV.ownBlock.toList, Wr x LV w q := by
    intro q hq
    simp only [List.mem_cons] at hq
    rcases hq with rfl | hq
    · exact h.pk.wrR
    · exact wrT h.pk.own q hq
  refine ⟨hp, own_kept h.lf kk ?_, ?_, fun v hv => (h.ok v hv).kept kk hL, (h.kp.trans kk).more ?_, h.lo, ?_⟩
  · intro q hq hm
    simp only [List.mem_cons, Option.mem_toList] at hm
    rcases hm with rfl | hm
    · exact a1 hq.symm
    · exact (h.fr q hq).2 hm
  · intro q hq
    refine ⟨(h.fr q hq).1, ?_⟩
    rcases hb with e | ⟨z, hz, e⟩
    · rw [e]; exact (h.fr q hq).2
    · rw [e]; intro e2; have := (a4 q hq).2; have := Option.some.inj e2; omega
  · intro q hq
    simp only [List.mem_append, List.mem_cons, Option.mem_toList] at hq ⊢
    rcases hq with hq | rfl | hq
    · exact .inl hq
    · exact .inl (.inl rfl)
    · rcases h.no with e | ⟨z, hz, e⟩
      · exact .inl (.inr (.inr (.inr (.inr (e ▸ hq)))))
      · rw [e] at hq
        exact .inr (by rw [← Option.some.inj hq]; exact hz)
  · rcases hb with e | ⟨q, hq, e⟩
    · rw [e]; exact h.no
    · exact .inr ⟨q, Nat.le_trans h.kp.size hq, e⟩
/-- The threads that are left have turned. -/
theorem Vi.pushed (h : Vi x we LV0 NV0 LF left LV NV met nxt k bits f st w) (kk : Kept w w' LF.ownBlock.toList) (ho : w'.ownsRow x.B 95 2 LF' l.length (thsRow x.cl l.reverse)) (hb : LF'.ownBlock = LF.ownBlock ∨ ∃ q, w.heap.size ≤ q ∧ LF'.ownBlock = some q) (hl : ∀ v ∈ l, Tok x LV.ownBlock w v) : Vi x we LV0 NV0 LF' l LV NV met nxt k bits f st w' := by
  obtain ⟨a1, a2, a3, a4⟩ := h.apart
  have hL : ∀ q ∈ LF.ownBlock.toList, Wr x LV w q := wrT h.lf
  have hin : ∀ q, q ∈ LF.ownBlock.toList → LF.ownBlock = some q := fun q hq => by simpa using hq
  refine ⟨h.pk.kept kk hL (fun q hq => (h.lf.lt q (hin q hq)).1) (fun hm => a1 (hin _ hm).symm) (fun hm => a2 (hin _ hm).symm) (fun hm => a3 (hin _ hm).symm) (fun q hq hm => (a4 q (hin _ hm)).1 hq) (fun q hq hm => (h.fr q (hin _ hm)).2 hq), ho, ?_, fun v hv => (hl v hv).kept kk hL, (h.kp.trans kk).more ?_, h.lo, h.no⟩
  · intro q hq
    rcases hb with e | ⟨z, hz, e⟩
    · exact h.fr q (by rw [← e]; exact hq)
    · rw [e] at hq
      have hzq := Option.some.inj hq
      refine ⟨by have := h.kp.size; omega, fun e2 => ?_⟩
      have := own_lt h.pk.own q e2
      omega
  · intro q hq
    rw [List.mem_append] at hq
    rcases hq with hq | hq
    · exact .inl hq
    · exact .inr (h.fr q (hin q hq)).1
theorem Vi.top (h : Vi x we LV0 NV0 LF (v :: l) LV NV met nxt k bits f st w) : ∃ g c, LF = .slice (some ⟨g, 0, none⟩) (l.length + 1) c ∧ w.cell? ⟨g, l.length * 2, none⟩ = some (.int .i64 (v.i : Int)) ∧ w.cell? ⟨g, l.length * 2 + 1, none⟩ = some (.slice (some ⟨v.g, 0, none⟩) x.cl x.cl) ∧ l.length + 1 ≤ c ∧ g < w.heap.size ∧
    Vi x we LV0 NV0 (.slice (some ⟨g, 0, none⟩) l.length c) l LV NV met nxt k bits f st w := by
  obtain ⟨A, c, rfl⟩ := own_shape h.lf
  have hlf := h.lf
  rw [List.length_cons] at hlf
  obtain ⟨g, rfl, hnc⟩ : ∃ g, A = some ⟨g, 0, none⟩ ∧ l.length + 1 ≤ c := by
    rcases hlf.2 with ⟨_, h0⟩ | ⟨g, cap, cur, hv, _, _, h3, _⟩
    · omega
    · simp only [Value.slice.injEq] at hv
      exact ⟨g, hv.1, by omega⟩
  have hrow : thsRow x.cl (v :: l).reverse = thsRow x.cl l.reverse ++ TV.vals x.cl v := by rw [List.reverse_cons, thsRow_append, thsRow_cons, thsRow_nil, List.append_nil]
  have hlen : (thsRow x.cl l.reverse).length = l.length * 2 := by rw [thsRow_length, List.length_reverse]
  have hcell : ∀ q, q < 2 → w.cell? ⟨g, l.length * 2 + q, none⟩ = (TV.vals x.cl v)[q]? := fun q hq => by
    rw [hlf.cellAt (l.length * 2 + q) (by omega), hrow, List.getElem?_append_right (by omega), hlen, Nat.add_sub_cancel_left]
  refine ⟨g, c, rfl, hcell 0 (by omega), hcell 1 (by omega), hnc, own_lt hlf g rfl, h.pk, ?_, h.fr, fun u hu => h.ok u (List.mem_cons_of_mem _ hu), h.kp, h.lo, h.no⟩
  rw [hrow] at hlf
  exact own_shrink hlf hlen (by omega) (by simp)
theorem Pk.notT {cs : List Value} {g : Nat} (h : Pk x LV NV met nxt k bits f st w) (hb : Blk w g 95 cs) : g ∉ x.sb :: x.ab :: LV.ownBlock.toList := by
  obtain ⟨ats, h1, h2, h3⟩ := h.met.at_
  simp only [List.mem_cons, Option.mem_toList, not_or]
  exact ⟨hb.ne_ h.met.blk (by decide), hb.ne_ h2 (by decide), fun e => blk_apart h.met.own hb (by decide) e.symm⟩
theorem Pk.tok_added (h : Pk x LV NV met nxt k bits f st w) (kk : Kept w w' (x.sb :: x.ab :: LV.ownBlock.toList)) (hb : LV'.ownBlock = LV.ownBlock ∨ ∃ q, w.heap.size ≤ q ∧ LV'.ownBlock = some q) (hv : Tok x LV.ownBlock w v) : Tok x LV'.ownBlock w' v := by
  refine hv.go kk ?_ hb
  intro q hq
  simp only [List.mem_cons] at hq
  rcases hq with rfl | rfl | hq
  · exact h.wrS
  · exact h.wrA
  · exact h.wrL q hq
end
theorem TV.row_snoc (cl : Nat) (v : TV) (l : List TV) : thsRow cl (v :: l).reverse = thsRow cl l.reverse ++ TV.vals cl v := by rw [List.reverse_cons, thsRow_append, thsRow_cons, thsRow_nil, List.append_nil]
end Go.Proofs.Yteiggbbljgkloaa
