/- pike.visit. -/
import Derived.Test.YteiggbbljgkloaaQVisLoop
import Derived.Test.YteiggbbljgkloaaQSetM
import Derived.Deep.RegionHeldLaw
import Derived.Deep.RegionLaw
namespace Go.Proofs.Yteiggbbljgkloaa
open Go.RowKit Go.Proofs.Yteiggbbljgkloaa.Mach

/-- What visit gives. -/
def VisPost (x : Px) (p : Prg) (t : List Int) (LV NV : Value) (met : List Nat) (nxt : List TV) (k : Nat) (f : Option Fd) (w : World) (v : TV) (e : Ending) (w' : World) : Prop :=
  ∃ (LV' NV' : Value) (met' : List Nat) (nxt' : List TV) (st' : Int) (f' : Option Fd) (E0 : List (Nat × List Int)) (r : Option (List Int × Int)), e = .returned (.bool r.isSome) ∧ Pk x LV' NV' met' nxt' k (atBits t k) f' st' w' ∧
    Kept w w' (x.rb :: x.sb :: x.ab :: (LV.ownBlock.toList ++ NV.ownBlock.toList)) ∧ (LV'.ownBlock = LV.ownBlock ∨ ∃ q, w.heap.size ≤ q ∧ LV'.ownBlock = some q) ∧ (NV'.ownBlock = NV.ownBlock ∨ ∃ q, w.heap.size ≤ q ∧ NV'.ownBlock = some q) ∧
    nxt'.length ≤ met'.length ∧ prs nxt' = prs nxt ++ E0 ∧ Clo p t k [(v.i, v.c)] (isIn met) E0 r (isIn met') ∧ (r = none → f' = f) ∧ (∀ q, r = some q → ∃ d, f' = some d ∧ d.res = q)
set_option maxRecDepth 1000000 in
set_option maxHeartbeats 4000000 in
theorem visit_any (x : Px) (p : Prg) (t : List Int) (L : List InV) (k : Nat) (f : Option Fd) (LV NV : Value) (met : List Nat) (nxt : List TV) (st : Int) (w : World) (v : TV) (hx : Kx x p t L) (hk : k ≤ x.nt) (h : Pk x LV NV met nxt k (atBits t k) f st w) (hv : Tok x LV.ownBlock w v) (hnm : nxt.length ≤ met.length) :
    Calls Try.prog 29 #[.pointer (some ⟨x.rb, 0, none⟩), .agg #[.int .i64 (v.i : Int), .slice (some ⟨v.g, 0, none⟩) x.cl x.cl], (.func (.func 38) #[.pointer (some ⟨x.rb, 0, none⟩)] #[])] w fun e w' => VisPost x p t LV NV met nxt k f w v e w' := by
  have H := Lib.hid h
  have HV := Lib.hid hv
  have HX := Lib.hid hx
  have HNM := Lib.hid hnm
  have HK := Lib.hid hk
  clear h hv hx hnm hk
  go_enter Try.func29, Try.ntmps29
  go_wp2_with fail
  have hvi : Vi x w LV NV (.slice (some ⟨w.heap.size + 1, 0, none⟩) 1 1) [v] LV NV met nxt k (atBits t k) f st ((w.alloc (.cells #[.int .i64 (v.i : Int), .slice (some ⟨v.g, 0, none⟩) x.cl x.cl] 95)).alloc (.cells #[.int .i64 (v.i : Int), .slice (some ⟨v.g, 0, none⟩) x.cl x.cl] 95)) := by
    have h1 := (H.out.alloc (.cells #[.int .i64 (v.i : Int), .slice (some ⟨v.g, 0, none⟩) x.cl x.cl] 95)).alloc (.cells #[.int .i64 (v.i : Int), .slice (some ⟨v.g, 0, none⟩) x.cl x.cl] 95)
    have hsz : (w.alloc (.cells #[.int .i64 (v.i : Int), .slice (some ⟨v.g, 0, none⟩) x.cl x.cl] 95)).heap.size = w.heap.size + 1 := by simp
    have hB := H.out.below.size
    refine ⟨h1, ?_, ?_, ?_, ((Kept.alloc (L := []) _).trans (Kept.alloc (L := []) _)).more (by simp), .inl rfl, .inl rfl⟩
    · have := own_lit (w.alloc (.cells #[.int .i64 (v.i : Int), .slice (some ⟨v.g, 0, none⟩) x.cl x.cl] 95)) x.B 95 2 1 #[.int .i64 (v.i : Int), .slice (some ⟨v.g, 0, none⟩) x.cl x.cl] (thsRow x.cl [v].reverse) (by rw [hsz]; unfold Px.B at *; omega) rfl rfl (by decide)
      rw [hsz] at this
      exact this
    · intro q hq
      simp only [Value.ownBlock, Option.some.injEq] at hq
      refine ⟨by omega, fun e => ?_⟩
      have := own_lt H.out.own q e
      omega
    · intro u hu
      rw [List.mem_singleton] at hu
      rw [hu]
      exact HV.out.kept (LV := LV) ((Kept.alloc (L := []) _).trans (Kept.alloc (L := []) _)) (by simp)
  have hgh : Gh p t k [(v.i, v.c)] (isIn met) (prs nxt) [v] met nxt := ⟨HNM.out, [], by rw [List.append_nil], fun E r V' hc => hc⟩
  refine visit_loop x w LV NV p t k f [(v.i, v.c)] (isIn met) (prs nxt) L HX.out HK.out _ _ _ _ _ _ _ _ _ _ _ _ _ _ _ _ _ _ _ _ _ _ _ _ _ _ _ _ _ _ _ _ _ _ _ _ _ _ _ _ _ _ _ _ _ _ _ _ _ _ _ _ _ _ _ _ _ _ _ _ _ _ _ _ _ _ _ _ _ _ _ _ _ _ _ _ _ _ _ _ _ _ _ _ _ _ _ _ _ _ _ _ _ _ _ _ _ _ _ _ _ _ _ _ _ _ _ _ _ _ _ _ _ _ _ _ _ _ _ _ _ _ _ _ _ _ _ _ _ _ _ [v] LV NV met nxt st _ hvi hgh (by have := (head_of HX.out.chk).2.1; have := HX.out.nl; simp only [List.length_cons, List.length_nil]; omega) ?_ ?_
  · intro u1 u3 u4 u5 u8 u9 u10 u11 u12 u13 u14 u15 u16 u17 u18 u19 u20 u21 u22 u23 u24 u25 u26 u27 u28 u29 u30 u31 u32 u33 u34 u35 u36 u37 u38 u39 u40 u41 u42 u43 u44 u45 u46 u47 u48 u49 u50 u51 u52 u53 u54 u55 u56 u57 u58 u59 u60 u61 u62 u63 u64 u65 u66 u67 u68 u69 u70 u71 u72 u73 u74 u75 u76 u77 u78 u79 u80 u81 u82 u83 u84 u85 u86 u87 u88 u89 u90 u91 u92 u93 u94 u95 u96 u97 u98 u99 u100 u101 u102 u103 u104 u105 u106 u107 u108 u109 u110 u111 u112 u113 u114 u115 u116 u117 u118 u119 u120 u121 u122 u123 u124 u125 u126 u127 u128 u129 u130 u131 u132 u133 LF w' hd
    have HD := Lib.hid hd
    clear hd hvi hgh
    go_wp2_with fail
    go_ret
    obtain ⟨LV', NV', met', nxt', st', l, hv, hn, E0, he, hc⟩ := HD.out
    exact ⟨LV', NV', met', nxt', st', f, E0, none, rfl, hv.pk, hv.kp, hv.lo, hv.no, hn, he, hc, fun _ => rfl, by simp⟩
  · intro u1 u3 u4 u5 u8 u9 u10 u11 u12 u13 u14 u15 u16 u17 u18 u19 u20 u21 u22 u23 u24 u25 u26 u27 u28 u29 u30 u31 u32 u33 u34 u35 u36 u37 u38 u39 u40 u41 u42 u43 u44 u45 u46 u47 u48 u49 u50 u51 u52 u53 u54 u55 u56 u57 u58 u59 u60 u61 u62 u63 u64 u65 u66 u67 u68 u69 u70 u71 u72 u73 u74 u75 u76 u77 u78 u79 u80 u81 u82 u83 u84 u85 u86 u87 u88 u89 u90 u91 u92 u93 u94 u95 u96 u97 u98 u99 u100 u101 u102 u103 u104 u105 u106 u107 u108 u109 u110 u111 u112 u113 u114 u115 u116 u117 u118 u119 u120 u121 u122 u123 u124 u125 u126 u127 u128 u129 u130 u131 u132 u133 LF w' d hd
    have HD := Lib.hid hd
    clear hd hvi hgh
    go_wp2_with fail
    go_ret
    obtain ⟨LV', NV', met', nxt', st', l, hv, hn, E0, he, hc⟩ := HD.out
    exact ⟨LV', NV', met', nxt', st', some d, E0, some d.res, rfl, hv.pk, hv.kp, hv.lo, hv.no, hn, he, hc, by simp, fun q hq => ⟨d, rfl, Option.some.inj hq⟩⟩
end Go.Proofs.Yteiggbbljgkloaa
/- pike.step: what stands in memory. -/
namespace Go.Proofs.Yteiggbbljgkloaa
open Go.RowKit Go.Proofs.Yteiggbbljgkloaa.Mach

/-- step goes over the threads now. -/
structure Sg (x : Px) (NW : Value) (now : List TV) (LV NV : Value) (met : List Nat) (nxt : List TV) (k : Nat) (bits : Int) (f : Option Fd) (st : Int) (w : World) : Prop where
  pk : Pk x LV NV met nxt k bits f st w
  nw : w.ownsRow x.B 95 2 NW now.length (thsRow x.cl now)
  fr : ∀ q, NW.ownBlock = some q → NV.ownBlock ≠ some q
  ok : ∀ v ∈ now, Tok x LV.ownBlock w v
section
variable {x : Px} {NW LV NV LV' NV' : Value} {now nxt nxt' : List TV} {met met' : List Nat} {k : Nat} {bits bits' st st' : Int} {f f' : Option Fd} {w w' : World}
theorem Sg.later (h : Sg x NW now LV NV met nxt k bits f st w) (hb : Below w.heap.size w w') : Sg x NW now LV NV met nxt k bits f st w' :=
  ⟨h.pk.later hb, own_below h.nw hb, h.fr, fun v hv => (h.ok v hv).kept (Kept.of_below (L := []) hb) (by simp)⟩
theorem Sg.drewN (h : Sg x NW now LV NV met nxt k bits f st w) (n : Nat) : Sg x NW now LV NV met nxt k bits f st (w.drewN n) := h.later (bdrewN (Below.refl _ _) n)
theorem Sg.drew (h : Sg x NW now LV NV met nxt k bits f st w) : Sg x NW now LV NV met nxt k bits f st w.drew := h.drewN 1
theorem Sg.alloc (h : Sg x NW now LV NV met nxt k bits f st w) (o : Obj) : Sg x NW now LV NV met nxt k bits f st (w.alloc o) := h.later ((Below.refl _ _).alloc (Nat.le_refl _) _)
theorem Sg.go (h : Sg x NW now LV NV met nxt k bits f st w) (hp : Pk x LV' NV' met' nxt' k bits' f' st' w') (kk : Kept w w' (x.rb :: x.sb :: x.ab :: (LV.ownBlock.toList ++ NV.ownBlock.toList)))
    (hl : LV'.ownBlock = LV.ownBlock ∨ ∃ q, w.heap.size ≤ q ∧ LV'.ownBlock = some q) (hn : NV'.ownBlock = NV.ownBlock ∨ ∃ q, w.heap.size ≤ q ∧ NV'.ownBlock = some q) : Sg x NW now LV' NV' met' nxt' k bits' f' st' w' := by
  obtain ⟨ats, h1, h2, h3⟩ := h.pk.met.at_
  have hL : ∀ q ∈ x.rb :: x.sb :: x.ab :: (LV.ownBlock.toList ++ NV.ownBlock.toList), Wr x LV w q := by
    intro q hq
    simp only [List.mem_cons, List.mem_append] at hq
    rcases hq with rfl | rfl | rfl | hq | hq
    · exact h.pk.wrR
    · exact h.pk.wrS
    · exact h.pk.wrA
    · exact h.pk.wrL q hq
    · exact wrT h.pk.own q hq
  refine ⟨hp, own_kept h.nw kk ?_, ?_, fun v hv => (h.ok v hv).go kk hL hl⟩
  · intro q hq hm
    simp only [List.mem_cons, List.mem_append, Option.mem_toList] at hm
    rcases hm with rfl | rfl | rfl | hm | hm
    · exact blk_apart h.nw h.pk.run (by decide) hq.symm
    · exact blk_apart h.nw h.pk.met.blk (by decide) hq.symm
    · exact blk_apart h.nw h2 (by decide) hq.symm
    · obtain ⟨cs, hb⟩ := own_blk h.nw q hq
      exact blk_apart h.pk.met.own hb (by decide) hm.symm
    · exact h.fr q hq hm
  · intro q hq
    rcases hn with e | ⟨z, hz, e⟩
    · rw [e]; exact h.fr q hq
    · rw [e]; intro e2; have := own_lt h.nw q hq; have := Option.some.inj e2; omega
/-- The set is cleared, the threads of the next place are none. -/
theorem Pk.begun (h : Pk x LV NW met now k bits f st w) (kk : Kept w w' (x.sb :: LV.ownBlock.toList)) (hs : SetM w' x.B x.sb x.ab LV' x.n met') (hb : LV'.ownBlock = LV.ownBlock) : Sg x NW now LV' (.slice none 0 0) met' [] k bits f st (w'.setCell ⟨x.rb, 7, none⟩ (.slice none 0 0)) := by
  have h1 : Pk x LV' NW met' now k bits f st w' := h.added (kk.more (by intro q hq; simp only [List.mem_cons] at hq ⊢; rcases hq with hq | hq; exact .inl (.inl hq); exact .inl (.inr (.inr hq)))) hs (.inl hb)
  have k2 : Kept w' (w'.setCell ⟨x.rb, 7, none⟩ (.slice none 0 0)) [x.rb] := Kept.setCell _ _
  have hL : ∀ q ∈ [x.rb], Wr x LV' w' q := by intro q hq; rw [List.mem_singleton] at hq; rw [hq]; exact h1.wrR
  have hne : ∀ q, NW.ownBlock = some q → q ∉ [x.rb] := fun q hq hm => by
    rw [List.mem_singleton] at hm
    subst hm
    exact blk_apart h1.own h1.run (by decide) hq.symm
  obtain ⟨f1, f2, f3, f4, f5, f6, f7, f8, f9⟩ := h1.far
  refine ⟨⟨Below.kept h1.below k2 (by intro g hg; rw [List.mem_singleton] at hg; rw [hg]; exact h1.lo) h1.below.size, h1.lo, h1.run.set_ 7 (.slice none 0 0), h1.met.kept k2 (by simpa using f1.symm) (by simpa using f2.symm) (fun q hq hm => by rw [List.mem_singleton] at hm; exact f4 (by rw [hq, hm])), World.ownsRow_nil _ _ _ _, by simp, fun d hd => (h1.fnd d hd).kept k2 hL⟩, own_kept h1.own k2 hne, by simp [Value.ownBlock], fun v hv => (h1.ok v hv).kept k2 hL⟩
theorem Sg.bitted (h : Sg x NW now LV NV met nxt k bits f st w) (z : Int) : Sg x NW now LV NV met nxt k z f st (w.setCell ⟨x.rb, 5, none⟩ (.int .i64 z)) :=
  h.go (h.pk.bitted z) ((Kept.setCell ⟨x.rb, 5, none⟩ (.int .i64 z)).more (by intro q hq; rw [List.mem_singleton] at hq; rw [hq]; exact .inl List.mem_cons_self)) (.inl rfl) (.inl rfl)
end
theorem isIn_take {now : List TV} {i : Nat} {v : TV} (h : now[i]? = some v) : prs (now.take (i + 1)) = prs (now.take i) ++ [(v.i, v.c)] := by
  unfold prs
  rw [List.take_add_one, h, List.map_append]
  rfl
theorem prs_split {now : List TV} {i : Nat} {v : TV} (h : now[i]? = some v) : prs now = prs (now.take i) ++ ((v.i, v.c) :: prs (now.drop (i + 1))) := by
  have h2 : i < now.length := by have := List.getElem?_eq_some_iff.1 h; exact this.1
  have h3 : now[i] = v := (List.getElem?_eq_some_iff.1 h).2
  conv => lhs; rw [← List.take_append_drop i now]
  rw [List.drop_eq_getElem_cons h2, h3]
  unfold prs
  rw [List.map_append, List.map_cons]
end Go.Proofs.Yteiggbbljgkloaa
/- pike.step. -/
namespace Go.Proofs.Yteiggbbljgkloaa
open Go.RowKit Go.Proofs.Yteiggbbljgkloaa.Mach

theorem rep_set (j cl : Nat) (h : j < cl) (a b : Int) : (List.replicate j a ++ List.replicate (cl - j) b).set j a = List.replicate (j + 1) a ++ List.replicate (cl - (j + 1)) b := by
  rw [List.set_append_right _ _ (by simp), List.length_replicate, Nat.sub_self, show cl - j = (cl - (j + 1)) + 1 from by omega, List.replicate_succ, List.set_cons_zero, List.replicate_succ', List.append_assoc]
  rfl
/-- What step gives. -/
def StepPost (x : Px) (p : Prg) (t : List Int) (NW : Value) (now : List TV) (begin_ : Bool) (k : Nat) (f : Option Fd) (w : World) (e : Ending) (w' : World) : Prop :=
  ∃ (LV' NV' : Value) (met' : List Nat) (nxt' : List TV) (st' : Int) (f' : Option Fd) (r : Option (List Int × Int)), e = .returned NV' ∧ Pk x LV' NV' met' nxt' k (atBits t k) f' st' w' ∧ nxt'.length ≤ met'.length ∧
    Clo p t k (prs now ++ (if begin_ then [startTh p] else [])) (fun _ => false) (prs nxt') r (isIn met') ∧ (r = none → f' = f) ∧ (∀ q, r = some q → ∃ d, f' = some d ∧ d.res = q)
set_option maxRecDepth 1000000 in
set_option maxHeartbeats 4000000 in
theorem step_any (x : Px) (p : Prg) (t : List Int) (L : List InV) (k : Nat) (f : Option Fd) (LV NW : Value) (met : List Nat) (now : List TV) (bits st : Int) (w : World) (bg : Bool) (hx : Kx x p t L) (hk : k ≤ x.nt) (h : Pk x LV NW met now k bits f st w) (hnow : now.length ≤ 20000) :
    Calls Try.prog 28 #[.pointer (some ⟨x.rb, 0, none⟩), NW, .bool bg, (.func (.func 29) #[.pointer (some ⟨x.rb, 0, none⟩)] #[])] w fun e w' => StepPost x p t NW now bg k f w e w' := by
  have H := Lib.hid h
  have HX := Lib.hid hx
  have HK := Lib.hid hk
  have HN := Lib.hid hnow
  obtain ⟨A, c, rfl⟩ := own_shape h.own
  have HNI := Lib.hid (show x.rb ∉ x.sb :: LV.ownBlock.toList from by
    obtain ⟨f1, _, _, f4, _⟩ := h.far
    simp only [List.mem_cons, Option.mem_toList, not_or]
    exact ⟨f1, fun e => f4 e.symm⟩)
  have HCL := Lib.hid (setClear_any x.B x.sb x.ab x.n LV met w h.met)
  have c6 : w.cell? ⟨x.rb, 6, none⟩ = some (.pointer (some ⟨x.sb, 0, none⟩)) := h.run.cell 6
  have c9 := h.run.lt
  clear h hx hk hnow
  go_enter Try.func28, Try.ntmps28
  go_wp2_with (go_at_call 37; refine HCL.out.mono ?_; rintro e w1 ⟨rfl, LV1, hs1, hk1, hl1⟩; have hr1 : Blk w1 x.rb 74 (x.cells k bits (.slice A now.length c) f st) := H.out.run.kept hk1 HNI.out; have q1 : w1.cell? ⟨x.rb, 7, none⟩ = some (.slice A now.length c) := hr1.cell 7; have q2 := hr1.frozen 7; have q3 := hr1.lt; have H1 := Lib.hid (H.out.begun hk1 hs1 hl1); clear hs1 hk1 hl1 hr1; simp only [])
  have h2 := H1.out
  clear H1 q1 q2 q3
  generalize w1.setCell ⟨x.rb, 7, none⟩ (.slice none 0 0) = w2 at *
  have HAT := Lib.hid (at_any x.At x.nt x.ct k t w2.drew ((HX.out.rt.below h2.drew.pk.below).more h2.drew.pk.below.size) HK.out)
  have q3 := h2.pk.run.lt
  have kA : w2.drew.cell? ⟨x.rb, 3, none⟩ = some (.slice x.At x.nt x.ct) ∧ w2.drew.cell? ⟨x.rb, 4, none⟩ = some (.int .i64 (k : Int)) := ⟨h2.pk.run.cell 3, h2.pk.run.cell 4⟩
  have H2 := Lib.hid h2
  clear h2
  refine wp_region_noPanic ?_
  go_region_held_law (fun w' => w'.cell? ⟨x.rb, 3, none⟩ = some (.slice x.At x.nt x.ct) ∧ w'.cell? ⟨x.rb, 4, none⟩ = some (.int .i64 (k : Int))) (first | exact kA | exact kB | exact kC) (first | (go_at_call 24; refine HAT.out.mono ?_; rintro e w3 ⟨rfl, hb3⟩; have H3 := Lib.hid (H2.out.drew.later hb3); have kB : w3.cell? ⟨x.rb, 3, none⟩ = some (.slice x.At x.nt x.ct) ∧ w3.cell? ⟨x.rb, 4, none⟩ = some (.int .i64 (k : Int)) := ⟨H3.out.pk.run.cell 3, H3.out.pk.run.cell 4⟩; have kC : (w3.setCell ⟨x.rb, 5, none⟩ (.int .i64 (atBits t k))).cell? ⟨x.rb, 3, none⟩ = some (.slice x.At x.nt x.ct) ∧ (w3.setCell ⟨x.rb, 5, none⟩ (.int .i64 (atBits t k))).cell? ⟨x.rb, 4, none⟩ = some (.int .i64 (k : Int)) := ⟨(H3.out.bitted _).pk.run.cell 3, (H3.out.bitted _).pk.run.cell 4⟩; have s0 : w3.cell? ⟨x.rb, 5, none⟩ = some (.int .i64 bits) := H3.out.pk.run.cell 5; have s1 := H3.out.pk.run.frozen 5; have s2 := H3.out.pk.run.lt; clear hb3; simp only []))
  all_goals
    refine NoPanic.normal ?_
  have h4 := H3.out.bitted (atBits t k)
  have HB := Lib.hid h4
  clear h4 kA kB kC s0 s1 s2 q3
  generalize w3.setCell ⟨x.rb, 5, none⟩ (.int .i64 (atBits t k)) = w4 at *
  go_wp2_with fail
  go_loopw [38] (fun q wr => ∃ i : Nat, i ≤ now.length ∧ q = .int .i64 (i : Int) ∧ ∃ (LV NV : Value) (met : List Nat) (nxt : List TV) (st : Int), Sg x (.slice A now.length c) now LV NV met nxt k (atBits t k) f st wr ∧ nxt.length ≤ met.length ∧ Clo p t k (prs (now.take i)) (fun _ => false) (prs nxt) none (isIn met)) (fun q _ => now.length - (intOf q).toNat)
  case atStart => exact ⟨0, Nat.zero_le _, rfl, LV1, .slice none 0 0, [], [], st, HB.out, Nat.le_refl _, by rw [isIn_nil]; exact .nil _⟩
  case round =>
    obtain ⟨i, hi, rfl, LVr, NVr, metr, nxtr, str, hsg, hnm, hclo⟩ := hrel
    have HSG := Lib.hid hsg
    have HNM := Lib.hid hnm
    have HCLO := Lib.hid hclo
    clear hsg hnm hclo
    have hnn : now.length ≤ 20000 := HN.out
    by_cases hlt : i < now.length
    · have hlt2 : (i : Int) < (now.length : Int) := by omega
      obtain ⟨g, rfl, _, _⟩ := own_form HSG.out.nw (by omega)
      obtain ⟨v, hv⟩ : ∃ v, now[i]? = some v := ⟨_, List.getElem?_eq_getElem hlt⟩
      have hcell : ∀ q, q < 2 → wr.cell? ⟨g, i * 2 + q, none⟩ = (TV.vals x.cl v)[q]? := fun q hq => by
        rw [HSG.out.nw.cellAt (i * 2 + q) (by omega)]
        exact thsRow_get _ _ _ _ _ hv hq
      have e0 : wr.cell? ⟨g, i * 2, none⟩ = some (.int .i64 (v.i : Int)) := hcell 0 (by omega)
      have e1 : wr.cell? ⟨g, i * 2 + 1, none⟩ = some (.slice (some ⟨v.g, 0, none⟩) x.cl x.cl) := hcell 1 (by omega)
      have HV := Lib.hid hv
      have hgl := own_lt HSG.out.nw g rfl
      have HVI := Lib.hid (visit_any x p t L k f LVr NVr metr nxtr str (wr.alloc (.cells #[.int .i64 (v.i : Int), .slice (some ⟨v.g, 0, none⟩) x.cl x.cl] 95)) v HX.out HK.out (HSG.out.alloc _).pk ((HSG.out.alloc _).ok v (List.mem_of_getElem? hv)) HNM.out)
      clear hcell hv
      go_wp2_with (go_at_call 29; refine HVI.out.mono ?_; rintro e w5 ⟨LV', NV', met', nxt', st', f', E0, r, rfl, hpk, hkk, hl, hn, hnm, he, hc, hr0, hr1⟩; have H5 := Lib.hid ((HSG.out.alloc _).go hpk hkk hl hn); have y0 : w5.cell? ⟨x.rb, 7, none⟩ = some NV' := H5.out.pk.run.cell 7; have y1 := H5.out.pk.run.lt; have HNM5 := Lib.hid hnm; have HE5 := Lib.hid he; have HC5 := Lib.hid hc; have HR0 := Lib.hid hr0; have HR1 := Lib.hid hr1; clear hpk hkk hl hn hnm he hc hr0 hr1; simp only [])
      · have hrs : r.isSome = true := by assumption
        obtain ⟨q, rfl⟩ := Option.isSome_iff_exists.1 hrs
        clear hrs
        go_ret
        refine ⟨LV', NV', met', nxt', st', f', some q, rfl, H5.out.pk, HNM5.out, ?_, by simp, HR1.out⟩
        rw [prs_split HV.out, HE5.out]
        have hh := (HCLO.out.app HC5.out).app_hit (prs (now.drop (i + 1)) ++ if bg then [startTh p] else [])
        simpa [List.append_assoc] using hh
      · have hrs : r.isSome = false := by assumption
        have hrn : r = none := by
          cases r with
          | none => rfl
          | some q => cases hrs
        have h5 := H5.out
        rw [HR0.out hrn] at h5
        have hc5 := HC5.out
        rw [hrn] at hc5
        have H5 := Lib.hid h5
        have HC5 := Lib.hid hc5
        clear h5 hc5 hrs hrn
        go_roundw
        case rel =>
          refine ⟨i + 1, by omega, by go_num, LV', NV', met', nxt', st', H5.out, HNM5.out, ?_⟩
          rw [isIn_take HV.out, HE5.out]
          exact HCLO.out.app HC5.out
        case measure => simp [intOf]; omega
    · obtain rfl : i = now.length := by omega
      have hlt2 : ¬ ((now.length : Int) < (now.length : Int)) := by omega
      rw [List.take_length] at HCLO
      have y0 : wr.cell? ⟨x.rb, 7, none⟩ = some NVr := HSG.out.pk.run.cell 7
      have y1 := HSG.out.pk.run.lt
      cases bg with
      | false =>
        go_wp2_with fail
        go_ret
        refine ⟨LVr, NVr, metr, nxtr, str, f, none, rfl, HSG.out.pk, HNM.out, ?_, fun _ => rfl, by simp⟩
        rw [if_neg (by decide), List.append_nil]
        exact HCLO.out
      | true =>
        have hhd := head_of HX.out.chk
        obtain ⟨cl, hcl⟩ : ∃ cl, cl = x.cl := ⟨_, rfl⟩
        have hcaps : x.caps = (cl : Int) := by have := HX.out.cl; have := HX.out.cp; omega
        have hcb : cl ≤ 1002 := by have := HX.out.cl; omega
        have HST := Lib.hid (show ((p.start.toNat : Nat) : Int) = x.start from by have := HX.out.st; omega)
        have HSL := Lib.hid (show p.start.toNat < x.n from by have := HX.out.nl; omega)
        have y2 : wr.cell? ⟨x.rb, 2, none⟩ = some (.int .i64 (cl : Int)) := by rw [← hcaps]; exact HSG.out.pk.run.cell 2
        have y3 : wr.cell? ⟨x.rb, 1, none⟩ = some (.int .i64 x.start) := HSG.out.pk.run.cell 1
        have HC := Lib.hid hcl
        obtain ⟨iI, hiI, hz0I, hz1I, hz2I⟩ := info_parts int_info
        have hmkC : ∀ u : World, (Instr.makeSlice 25 (.int .i64 (cl : Int)) (.int .i64 (cl : Int))).run Try.prog u =
            .ok (.slice (some ⟨u.heap.size, 0, none⟩) cl cl) (u.alloc (.cells ((List.replicate cl (0 : Int)).map (Value.int .i64)).toArray 3)) := fun u => by
          have h := run_make (P := Try.prog) u 25 3 iI (.int .i64 0) Try.underlying25 hiI hz0I .i64 .i64 (cl : Int) (cl : Int) (by omega) (Int.le_refl _) (by rw [hz2I]; omega) (by omega)
          have hmd : madeCells #[.int .i64 0] cl = ((List.replicate cl (0 : Int)).map (Value.int .i64)).toArray := by
            apply Array.toList_inj.1
            rw [toList_madeCells_one]; simp
          rw [Int.toNat_natCast] at h
          rw [← hmd]
          simpa [hz1I, Value.cells] using h
        clear hhd hcaps hcl hiI hz0I hz1I hz2I
        go_wp2_with fail
        have hnb0 : Blk (wr.alloc (.cells (Array.replicate cl (.int .i64 0)) 3)) wr.heap.size 3 ((List.replicate 0 (-1 : Int) ++ List.replicate (cl - 0) (0 : Int)).map (Value.int .i64)) := by
          have := Blk.new wr 3 ((List.replicate 0 (-1 : Int) ++ List.replicate (cl - 0) (0 : Int)).map (Value.int .i64))
          simpa using this
        have hbe0 : Below wr.heap.size wr (wr.alloc (.cells (Array.replicate cl (.int .i64 0)) 3)) := (Below.refl _ _).alloc (Nat.le_refl _) _
        have HNB0 := Lib.hid hnb0
        have HBE0 := Lib.hid hbe0
        clear hnb0 hbe0 hmkC y2
        obtain ⟨wo, rfl⟩ : ∃ wo, wo = wr := ⟨_, rfl⟩
        go_loopw [60] (fun q wl => ∃ j : Nat, j ≤ cl ∧ q = .int .i64 (j : Int) ∧ Blk wl wo.heap.size 3 ((List.replicate j (-1 : Int) ++ List.replicate (cl - j) (0 : Int)).map (Value.int .i64)) ∧ Below wo.heap.size wo wl) (fun q _ => cl - (intOf q).toNat)
        case atStart => exact ⟨0, Nat.zero_le _, rfl, HNB0.out, HBE0.out⟩
        case round =>
          obtain ⟨j, hj, rfl, hbl, hbe⟩ := hrel
          by_cases hjl : j < cl
          · have hjl2 : (j : Int) < (cl : Int) := by omega
            obtain ⟨u, hu⟩ : ∃ u, ((List.replicate j (-1 : Int) ++ List.replicate (cl - j) (0 : Int)).map (Value.int .i64))[j]? = some u := ⟨_, List.getElem?_eq_getElem (by simp; omega)⟩
            have z0 : wr.cell? ⟨wo.heap.size, j, none⟩ = some u := (hbl.cell j).trans hu
            have z1 := hbl.frozen j
            have z2 := hbl.lt
            have HBL := Lib.hid hbl
            have HBE := Lib.hid hbe
            clear hbl hbe hu
            go_wp2_with fail
            go_roundw
            case rel =>
              refine ⟨j + 1, by omega, by go_num, ?_, ?_⟩
              · have := HBL.out.set_ j (.int .i64 (-1))
                rwa [← List.map_set, rep_set j cl hjl] at this
              · exact Below.kept HBE.out (Kept.setCell _ _) (by intro q hq; rw [List.mem_singleton] at hq; rw [hq]; exact Nat.le_refl _) HBE.out.size
            case measure => simp [intOf]; omega
          · obtain rfl : j = cl := by omega
            have hjl2 : ¬ ((j : Int) < (j : Int)) := by omega
            rw [Nat.sub_self, List.replicate_zero, List.append_nil] at hbl
            have h6 := HSG.out.later hbe
            obtain ⟨ats, _, hab, _⟩ := HSG.out.pk.met.at_
            have hablt := hab.lt
            have hnc : noCaps p = List.replicate j (-1) := by unfold noCaps; rw [← HX.out.cl, HC.out]
            have HVI := Lib.hid (visit_any x p t L k f LVr NVr metr nxtr str wr ⟨p.start.toNat, wo.heap.size, noCaps p⟩ HX.out HK.out h6.pk ⟨HSL.out, by rw [hnc]; exact hbl, by rw [hnc, HC.out]; simp, by simp only []; omega, fun e => absurd (own_lt HSG.out.pk.met.own wo.heap.size e.symm) (Nat.lt_irrefl _)⟩ HNM.out)
            simp only [HST.out, ← HC.out] at HVI
            have y5 : wr.cell? ⟨x.rb, 1, none⟩ = some (.int .i64 x.start) := h6.pk.run.cell 1
            have y6 := h6.pk.run.lt
            have H6 := Lib.hid h6
            clear h6 hbl hbe hnc hablt hab y0 y1 y3
            go_wp2_with (go_at_call 29; refine HVI.out.mono ?_; rintro e w5 ⟨LV', NV', met', nxt', st', f', E0, r, rfl, hpk, hkk, hl, hn, hnm, he, hc, hr0, hr1⟩; have H5 := Lib.hid (H6.out.go hpk hkk hl hn); have y0 : w5.cell? ⟨x.rb, 7, none⟩ = some NV' := H5.out.pk.run.cell 7; have y1 := H5.out.pk.run.lt; have HNM5 := Lib.hid hnm; have HE5 := Lib.hid he; have HC5 := Lib.hid hc; have HR0 := Lib.hid hr0; have HR1 := Lib.hid hr1; clear hpk hkk hl hn hnm he hc hr0 hr1; simp only [])
            go_ret
            refine ⟨LV', NV', met', nxt', st', f', r, rfl, H5.out.pk, HNM5.out, ?_, HR0.out, HR1.out⟩
            rw [HE5.out, if_pos rfl]
            exact HCLO.out.app HC5.out
end Go.Proofs.Yteiggbbljgkloaa
