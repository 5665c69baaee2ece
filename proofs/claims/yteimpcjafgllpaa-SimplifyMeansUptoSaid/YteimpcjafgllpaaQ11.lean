/- meaning: where a walk ends: a parse, if none ends there yet. -/
import Derived.Test.YteimpcjafgllpaaQ07
namespace Go.Proofs.Yteimpcjafgllpaa
open Go.RowKit
theorem parse_info : (Try.prog.info? 57).map (fun i => (i.zero, i.size, i.bytes)) = some (some (.agg #[.int .i64 0, .slice none 0 0]), 2, 32) := by kernel_rfl
theorem endB_map (ps : List (Nat × Option Addr × Nat × List Int)) (pl : Nat) : (ps.map fun p => (p.1, p.2.2.2)).any (fun p => p.1 == pl) = endB ps pl := by
  unfold endB; rw [List.any_map]; rfl
theorem nodup_len {l : List Nat} {m : Nat} (h : l.Nodup) (hm : ∀ x ∈ l, x ≤ m) : l.length ≤ m + 1 := by
  have := List.Nodup.length_le_of_subset h (l₂ := List.range (m + 1)) (fun x hx => List.mem_range.2 (by have := hm x hx; omega))
  simpa using this
theorem top_end (G : Wk) (s : Mean.St) (pl : Nat) (nt : List Int) (w4 : World) (A A6 : Option Addr) (oc c6 : Nat) (ps : List (Nat × Option Addr × Nat × List Int)) (B3 : Option Addr) (c3 : Nat) (caps : List Int) (W5 w5 : World)
    (hcaps : caps = (nt.set 0 (G.at_ : Int)).set 1 (pl : Int)) (hcl : caps.length = G.NL) (hpl : pl ≤ G.nt) (hd : endB ps pl = false) (hops : s.out = ps.map fun p => (p.1, p.2.2.2)) (hc : G.cst w4) (hs : G.st w4 s)
    (hob : Blk w4 G.ob 33 [.slice A s.out.length oc]) (how : w4.ownsRow G.base 57 2 (.slice A s.out.length oc) s.out.length (outW ps))
    (hrd : ∀ p ∈ ps, RdA w4 (G.still w4) 1 p.2.1 p.2.2.2.length p.2.2.1 (p.2.2.2.map (Value.int .i64)) ∧ p.2.2.2.length = G.NL) (hnew : RdA w4 (G.still w4) 1 B3 G.NL c3 (caps.map (Value.int .i64)))
    (hb5 : Below w4.heap.size w4 W5) (ha : Appended G.base 57 2 (.slice A s.out.length oc) (.slice A6 (s.out.length + 1) c6) s.out.length 1 (outW ps) (outW [(pl, B3, c3, caps)]) W5 w5) :
    G.fr w4 (w5.setCell ⟨G.ob, 0, none⟩ (.slice A6 (s.out.length + 1) c6)) ∧ G.st (w5.setCell ⟨G.ob, 0, none⟩ (.slice A6 (s.out.length + 1) c6)) (Mean.ended G.at_ s pl nt) := by
  obtain ⟨es, cl, hmap, hok⟩ := hs.map
  have hobm : G.ob ≠ G.mb := fun e => by
    have h2 := hob.raw
    rw [e, hmap] at h2
    cases h2
  have how5 := own_below how hb5
  have hob5 := (hob.below hb5 hc.ob).grown ha.grown (blk_apart how5 (hob.below hb5 hc.ob) (by decide))
  have hob6 := hob5.set_ 0 (.slice A6 (s.out.length + 1) c6)
  have hA : outB G.ob w4 = (Value.slice A s.out.length oc).ownBlock := by unfold outB; rw [hob.cell 0]; rfl
  have hne6 : ∀ b, (Value.slice A6 (s.out.length + 1) c6).ownBlock = some b → b ≠ G.ob := fun b hb e => blk_apart ha.own hob5 (by decide) (by rw [hb, e])
  have hk : Kept w4 (w5.setCell ⟨G.ob, 0, none⟩ (.slice A6 (s.out.length + 1) c6)) (G.mut w4) :=
    (((Kept.of_below (L := []) hb5).trans (Kept.of_grown' ha.grown)).trans (Kept.setCell ⟨G.ob, 0, none⟩ _)).more fun k hk => by
      simp only [List.nil_append, List.mem_append, List.mem_singleton, Option.mem_toList, Option.mem_def] at hk
      rcases hk with hk | rfl
      · exact .inl (mem_mut.2 (.inr (.inr (hA.trans hk))))
      · exact .inl (mem_mut.2 (.inr (.inl rfl)))
  have hout6 : outB G.ob (w5.setCell ⟨G.ob, 0, none⟩ (.slice A6 (s.out.length + 1) c6)) = (Value.slice A6 (s.out.length + 1) c6).ownBlock := by unfold outB; rw [hob6.cell 0]; rfl
  have hfr : G.fr w4 (w5.setCell ⟨G.ob, 0, none⟩ (.slice A6 (s.out.length + 1) c6)) := ⟨hk, fun b hb => by
    rw [hout6] at hb
    rcases ha.at_ with e | e
    · exact .inl (hA.trans (e.symm.trans hb))
    · rw [hb] at e
      simp only [Option.some.injEq] at e
      exact .inr (by rw [e]; exact hb5.size), hc.mb, hc.ob⟩
  have hmb : ∀ k, (Value.slice A s.out.length oc).ownBlock = some k → k ≠ G.mb := fun k hk e => by
    rcases how.2 with ⟨h0, _⟩ | ⟨b, cap, cur, h0, _, hh, _⟩
    · rw [h0] at hk; simp [Value.ownBlock] at hk
    · rw [h0] at hk
      obtain e2 : b = k := by simpa [Value.ownBlock] using hk
      rw [e2, e, hmap] at hh
      cases hh
  refine ⟨hfr, ?_⟩
  have hend : Mean.ended G.at_ s pl nt = ⟨s.met, s.out ++ [(pl, caps)], s.calls⟩ := by
    unfold Mean.ended
    rw [if_neg (by rw [hops, endB_map, hd]; simp), hcaps]
  rw [hend]
  refine ⟨⟨es, cl, ?_, hok⟩, ⟨.slice A6 (s.out.length + 1) c6, ps ++ [(pl, B3, c3, caps)], hob6, ?_, ?_, ?_⟩, hs.met, ?_, ?_⟩
  · have hk2 : Kept w4 (w5.setCell ⟨G.ob, 0, none⟩ (.slice A6 (s.out.length + 1) c6)) (G.ob :: (Value.slice A s.out.length oc).ownBlock.toList) :=
      (((Kept.of_below (L := []) hb5).trans (Kept.of_grown' ha.grown)).trans (Kept.setCell ⟨G.ob, 0, none⟩ _)).more fun k hk => by
        simp only [List.nil_append, List.mem_append, List.mem_singleton] at hk
        rcases hk with hk | rfl
        · exact .inl (List.mem_cons_of_mem _ hk)
        · exact .inl List.mem_cons_self
    refine (hk2.block G.mb hc.mb fun hm => ?_).trans hmap
    rcases List.mem_cons.1 hm with e | e
    · exact hobm e.symm
    · exact hmb G.mb (by simpa using e) rfl
  · rw [outW_append, List.length_append]
    exact own_kept ha.own (Kept.setCell ⟨G.ob, 0, none⟩ _) fun b hb hm => hne6 b hb (by simpa using hm)
  · rw [List.map_append, hops]; rfl
  · intro p hp
    rcases List.mem_append.1 hp with hp | hp
    · exact ⟨(hrd p hp).1.fr hfr, (hrd p hp).2⟩
    · simp only [List.mem_singleton] at hp
      subst hp
      refine ⟨?_, hcl⟩
      simp only [hcl]
      exact hnew.fr hfr
  · rw [List.map_append]
    refine List.nodup_append.2 ⟨hs.ends.1, by simp, fun a haa b hb e => ?_⟩
    simp only [List.map_cons, List.map_nil, List.mem_singleton] at hb
    subst hb e
    obtain ⟨q, hq, e⟩ := List.mem_map.1 haa
    rw [hops] at hq
    obtain ⟨p, hp, rfl⟩ := List.mem_map.1 hq
    have := List.any_eq_false.1 (show (ps.any fun p => p.1 == a) = false from hd) p hp
    exact this (by simpa using e)
  · intro p hp
    rcases List.mem_append.1 hp with hp | hp
    · exact hs.ends.2 p hp
    · simp only [List.mem_singleton] at hp
      subst hp
      exact hpl
set_option maxRecDepth 100000 in
set_option maxHeartbeats 4000000 in
theorem top_clo (G : Wk) (hwf : G.wf) (s : Mean.St) (pl : Nat) (nt : List Int) (hbase : ∀ w, G.cst w → G.base ≤ w.heap.size) : G.does s (.go .top pl nt) (Mean.ended G.at_ s pl nt) := by
  intro hpl hlen w v N c hc hs hr hk
  obtain rfl : v = _ := hk
  refine ⟨_, _, rfl, enters Try.func27 (by kernel_rfl) (by kernel_rfl), ?_⟩
  obtain ⟨i0, hi, hz0, hz1, hz2⟩ := info_parts parse_info
  obtain ⟨ov, ps, hob, how, hops, hrd⟩ := hs.out
  obtain ⟨A, oc, rfl⟩ := own_shape how
  have hb1 : Below w.heap.size w (w.alloc (.cells #[.int .i64 (pl : Int)] 3)) := (Below.refl _ _).alloc (Nat.le_refl _) _
  have f1 : G.fr w (w.alloc (.cells #[.int .i64 (pl : Int)] 3)) := hc.below hb1
  have HB1 := Lib.hid (Blk.new w 3 [.int .i64 (pl : Int)])
  have HF1 := Lib.hid f1
  have HC1 := Lib.hid (hc.fr f1)
  have HR1 := Lib.hid (hr.fr f1)
  have HOB1 := Lib.hid (hob.below hb1 hc.ob)
  have HOW1 := Lib.hid (own_below how hb1)
  have HS1 := Lib.hid (hs.kept_below hc hb1)
  have HRD1 := Lib.hid (show ∀ p ∈ ps, _ from fun p hp => (And.intro ((hrd p hp).1.fr f1) (hrd p hp).2))
  have hpn : ps.length = s.out.length := by rw [hops, List.length_map]
  have hps : ps.length ≤ G.nt + 1 := by
    have := nodup_len hs.ends.1 (m := G.nt) (fun x hx => by obtain ⟨p, hp, rfl⟩ := List.mem_map.1 hx; exact hs.ends.2 p hp)
    rw [List.length_map] at this
    omega
  have HOPS := Lib.hid hops
  have hsh := hwf.short
  have HNL := Lib.hid hwf.nl
  have HBASE := Lib.hid (hbase _ (hc.fr f1))
  have hlt : w.heap.size < (w.alloc (.cells #[.int .i64 (pl : Int)] 3)).heap.size := by simp
  clear f1 hb1 hc hs hr hob how hrd hops hwf hbase
  go_enter Try.func27, Try.ntmps27
  generalize hg : w.heap.size = g at *
  generalize hw1 : w.alloc (.cells #[.int .i64 (pl : Int)] 3) = w1 at *
  have o1 : w1.cell? ⟨G.ob, 0, none⟩ = some (.slice A s.out.length oc) := HOB1.out.cell 0
  have p1 : w1.cell? ⟨g, 0, none⟩ = some (.int .i64 (pl : Int)) := HB1.out.cell 0
  have HEH := Lib.hid (endH_any A s.out.length oc g pl ps w1 (Reads.of_own HOW1.out) p1)
  go_wp2_with fail
  refine HEH.out.mono ?_
  rintro e w2 ⟨rfl, hb2⟩
  have f2 : G.fr w1 w2 := HC1.out.below hb2
  have HF2 := Lib.hid f2
  have HC2 := Lib.hid (HC1.out.fr f2)
  have HS2 := Lib.hid (HS1.out.kept_below HC1.out hb2)
  have HR2 := Lib.hid (HR1.out.fr f2)
  have HOB2 := Lib.hid (HOB1.out.below hb2 HC1.out.ob)
  have HOW2 := Lib.hid (own_below HOW1.out hb2)
  have HB2 := Lib.hid (HB1.out.below hb2 hlt)
  have HZ2 := Lib.hid hb2.size
  clear hb2 f2 o1 p1 HEH
  cases hd : endB ps pl with
  | true =>
    simp only []
    go_wp2_with fail
    refine bodyPost_ret (results_none rfl _ _ _) rfl ?_
    have he : Mean.ended G.at_ s pl nt = s := by
      unfold Mean.ended
      rw [if_pos (by rw [HOPS.out, endB_map]; exact hd)]
    exact ⟨rfl, HF1.out.trans HF2.out, by rw [he]; exact HS2.out⟩
  | false =>
    have HCL := Lib.hid (clone_any N G.NL c nt w2 HR2.out.2.2.2.1 (HR2.out.reads fun b hb => hb.1) HNL.out.2)
    simp only []
    go_wp2_with fail
    refine HCL.out.mono ?_
    rintro e w3 ⟨v3, rfl, ho3, hb3⟩
    have hntl : nt.length = G.NL := hlen
    have hnl := HNL.out
    rw [hntl] at ho3
    obtain ⟨A3, c3, rfl⟩ := own_shape ho3
    obtain ⟨g3, rfl, -, hg3, hg3'⟩ := own_form ho3 (by omega)
    have f3 : G.fr w2 w3 := HC2.out.below hb3
    have HF3 := Lib.hid f3
    have HC3 := Lib.hid (HC2.out.fr f3)
    have HS3 := Lib.hid (HS2.out.kept_below HC2.out hb3)
    have HOB3 := Lib.hid (HOB2.out.below hb3 HC2.out.ob)
    have HOW3 := Lib.hid (own_below HOW2.out hb3)
    have HB3 := Lib.hid (HB2.out.below hb3 (Nat.lt_of_lt_of_le hlt HZ2.out))
    have HO3 := Lib.hid ho3
    have HBB := Lib.hid hb3
    have hgg : ¬ (g = g3) := by have := HZ2.out; omega
    have hgg' : ¬ (g3 = g) := fun e => hgg e.symm
    have hab : ¬ (G.ab = g3) := by have := HC2.out.ab.1.1; omega
    have hab' : ¬ (g3 = G.ab) := fun e => hab e.symm
    have a0 : w3.drew.cell? ⟨G.ab, 0, none⟩ = some (.int .i64 (G.at_ : Int)) := HC3.out.ab.2
    have p0 : w3.drew.cell? ⟨g, 0, none⟩ = some (.int .i64 (pl : Int)) := HB3.out.cell 0
    have x0 : w3.drew.cell? ⟨g3, 0, none⟩ = some (.int .i64 (nt.getD 0 0)) := by
      rw [show w3.drew.cell? ⟨g3, 0, none⟩ = w3.cell? ⟨g3, 0, none⟩ from rfl, HO3.out.cellAt 0 (by omega), List.getElem?_map, List.getElem?_eq_getElem (show 0 < nt.length by omega), List.getD_eq_getElem?_getD, List.getElem?_eq_getElem (show 0 < nt.length by omega)]; rfl
    have x1 : w3.drew.cell? ⟨g3, 1, none⟩ = some (.int .i64 (nt.getD 1 0)) := by
      rw [show w3.drew.cell? ⟨g3, 1, none⟩ = w3.cell? ⟨g3, 1, none⟩ from rfl, HO3.out.cellAt 1 (by omega), List.getElem?_map, List.getElem?_eq_getElem (show 1 < nt.length by omega), List.getD_eq_getElem?_getD, List.getElem?_eq_getElem (show 1 < nt.length by omega)]; rfl
    generalize nt.getD 0 0 = y0 at *
    generalize nt.getD 1 0 = y1 at *
    have z0 : w3.drew.frozen? ⟨g3, 0, none⟩ = false := HO3.out.frozenAt 0
    have z1 : w3.drew.frozen? ⟨g3, 1, none⟩ = false := HO3.out.frozenAt 1
    have x0' : w3.cell? ⟨g3, 0, none⟩ = some (.int .i64 y0) := x0
    have x1' : w3.cell? ⟨g3, 1, none⟩ = some (.int .i64 y1) := x1
    have z0' : w3.frozen? ⟨g3, 0, none⟩ = false := z0
    have z1' : w3.frozen? ⟨g3, 1, none⟩ = false := z1
    have p0' : w3.cell? ⟨g, 0, none⟩ = some (.int .i64 (pl : Int)) := p0
    have a0' : w3.cell? ⟨G.ab, 0, none⟩ = some (.int .i64 (G.at_ : Int)) := a0
    have l0 : (0 : Int) < (G.NL : Int) := by omega
    have l1 : (1 : Int) < (G.NL : Int) := by omega
    clear ho3 hb3 f3 HCL
    simp only []
    go_wp2_with fail
    go_region
    have hb4 : Below w2.heap.size w2 ((w3.setCell ⟨g3, 0, none⟩ (.int .i64 (G.at_ : Int))).setCell ⟨g3, 1, none⟩ (.int .i64 (pl : Int))).drew := bdrewN (Below.kept HBB.out ((Kept.setCell ⟨g3, 0, none⟩ _).trans (Kept.setCell ⟨g3, 1, none⟩ _)) (fun k hk => by simp at hk; omega) HBB.out.size) 1
    have how4 := ((HO3.out.stored 0 (.int .i64 (G.at_ : Int))).1.stored 1 (.int .i64 (pl : Int))).1
    rw [set_map_int, set_map_int] at how4
    have hro4 : Reads ((w3.setCell ⟨g3, 0, none⟩ (.int .i64 (G.at_ : Int))).setCell ⟨g3, 1, none⟩ (.int .i64 (pl : Int))).drew ((w3.setCell ⟨g3, 0, none⟩ (.int .i64 (G.at_ : Int))).setCell ⟨g3, 1, none⟩ (.int .i64 (pl : Int))).drew.heap.size 1 (some ⟨g3, 0, none⟩) G.NL c3 (((nt.set 0 (G.at_ : Int)).set 1 (pl : Int)).map (Value.int .i64)) := (Reads.of_own how4).drew
    have hg34 : g3 < ((w3.setCell ⟨g3, 0, none⟩ (.int .i64 (G.at_ : Int))).setCell ⟨g3, 1, none⟩ (.int .i64 (pl : Int))).drew.heap.size := Nat.lt_of_lt_of_le hg3' (by simp [World.drew])
    generalize hcaps : (nt.set 0 (G.at_ : Int)).set 1 (pl : Int) = caps at *
    have hcl : caps.length = G.NL := by rw [← hcaps, List.length_set, List.length_set, hntl]
    generalize hw4 : ((w3.setCell ⟨g3, 0, none⟩ (.int .i64 (G.at_ : Int))).setCell ⟨g3, 1, none⟩ (.int .i64 (pl : Int))).drew = w4 at *
    clear hw4 how4 a0 p0 x0 x1 z0 z1 x0' x1' z0' z1' p0' a0' HC3 HS3 HOB3 HOW3 HB3 HO3 HF3
    have f24 : G.fr w2 w4 := HC2.out.below hb4
    have hst4 : G.still w4 g3 := HS2.out.still_new HC2.out hb4 hg3 hg34
    have hrd4 : RdA w4 (G.still w4) 1 (some ⟨g3, 0, none⟩) G.NL c3 (caps.map (Value.int .i64)) :=
      ⟨hro4.le, hro4.cap, hro4.len, (fun h => by cases h), fun _ => ⟨g3, 0, rfl, hst4, fun j u hu => hro4.cellAt hu⟩⟩
    have HF24 := Lib.hid f24
    have HC4 := Lib.hid (HC2.out.fr f24)
    have HS4 := Lib.hid (HS2.out.kept_below HC2.out hb4)
    have HRD4 := Lib.hid hrd4
    have HOB4 := Lib.hid (HOB2.out.below hb4 HC2.out.ob)
    have HOW4 := Lib.hid (own_below HOW2.out hb4)
    have p4 : w4.cell? ⟨g, 0, none⟩ = some (.int .i64 (pl : Int)) := (HB2.out.below hb4 (Nat.lt_of_lt_of_le hlt HZ2.out)).cell 0
    have o4 : w4.cell? ⟨G.ob, 0, none⟩ = some (.slice A s.out.length oc) := HOB4.out.cell 0
    have hb5 : Below w4.heap.size w4 (w4.alloc (.cells #[.int .i64 (pl : Int), .slice (some ⟨g3, 0, none⟩) G.NL c3] 57)) := (Below.refl _ _).alloc (Nat.le_refl _) _
    have HB5 := Lib.hid hb5
    have HOB5 := Lib.hid (HOB4.out.below hb5 HC4.out.ob)
    have HOW5 := Lib.hid (own_below HOW4.out hb5)
    have hnew := own_lit w4 w4.heap.size 57 2 1 #[.int .i64 (pl : Int), .slice (some ⟨g3, 0, none⟩) G.NL c3] (outW [(pl, some ⟨g3, 0, none⟩, c3, caps)]) (Nat.le_refl _) (by simp [outW, hcl]) (by simp [lensW]) (by decide)
    have HNEW := Lib.hid (Reads.of_own hnew)
    have HB24 := Lib.hid hb4
    have hbase5 : G.base ≤ (w4.alloc (.cells #[.int .i64 (pl : Int), .slice (some ⟨g3, 0, none⟩) G.NL c3] 57)).heap.size := Nat.le_trans (Nat.le_trans HBASE.out (Nat.le_trans HF2.out.kept.size hb4.size)) hb5.size
    have hones : ∀ u ∈ outW [(pl, some ⟨g3, 0, none⟩, c3, caps)], u.oneCell' = true := by
      intro u hu
      simp only [outW, List.flatMap_cons, List.flatMap_nil, List.append_nil, List.mem_cons, List.not_mem_nil, or_false] at hu
      rcases hu with rfl | rfl <;> rfl
    clear hb4 hb5 hro4 hg34 f24 hst4 hrd4 hnew
    go_wp2_with (at_builtin; refine wpList_append_reads rfl (.tmp 18) (.tmp 22) 33 rfl G.base 57 i0 (.agg #[.int .i64 0, .slice none 0 0]) 2 32 Try.underlying33 hi hz0 hz1 hz2 rfl (by decide) _ s.out.length (outW ps) rfl HOW5.out (some ⟨w4.heap.size, 0, none⟩) _ 1 1 (outW [(pl, some ⟨g3, 0, none⟩, c3, caps)]) rfl (fun h => by cases h) HNEW.out hones (by unfold maxLen; omega) (by omega) hbase5 ?_; intro v5 w5 ha5; have hob5 := HOB5.out.grown ha5.grown (blk_apart HOW5.out HOB5.out (by decide)); have q0 := hob5.cell 0; have q1 := hob5.frozen 0; obtain ⟨A6, c6, h6⟩ := own_shape ha5.own; subst h6)
    go_end0
    have hend := top_end G s pl nt w4 A A6 oc c6 ps (some ⟨g3, 0, none⟩) c3 caps _ w5 hcaps.symm hcl hpl hd HOPS.out HC4.out HS4.out HOB4.out HOW4.out (fun p hp => ⟨(((HRD1.out p hp).1.fr HF2.out).fr HF24.out), (HRD1.out p hp).2⟩) HRD4.out HB5.out ha5
    exact ⟨rfl, HF1.out.trans (HF2.out.trans (HF24.out.trans hend.1)), hend.2⟩
end Go.Proofs.Yteimpcjafgllpaa
