/- pike.visit: a round. -/
import Derived.Test.YteiggbbljgkloaaQVis0
import Derived.Deep.RegionHeldLaw
import Derived.Deep.RegionLaw
namespace Go.Proofs.Yteiggbbljgkloaa
open Go.RowKit Go.Proofs.Yteiggbbljgkloaa.Mach

set_option maxRecDepth 1000000 in
set_option maxHeartbeats 4000000 in
theorem vround_cap {x : Px} {we : World} {LV0 NV0 LF LV NV : Value} {l : List TV} {v : TV} {met : List Nat} {nxt : List TV} {k : Nat} {bits st : Int} {f : Option Fd} {w : World} {K : Act → World → Prop} {Q : Exit → Act → World → Prop} {L : List InV} {u : InV} {ixn ca : Nat} (u1 u3 u4 u5 u8 u9 u10 u11 u12 u13 u14 u15 u16 u17 u18 u19 u20 u21 u22 u23 u24 u25 u26 u27 u28 u29 u30 u31 u32 u33 u34 u35 u36 u37 u38 u39 u40 u41 u42 u43 u44 u45 u46 u47 u48 u49 u50 u51 u52 u53 u54 u55 u56 u57 u58 u59 u60 u61 u62 u63 u64 u65 u66 u67 u68 u69 u70 u71 u72 u73 u74 u75 u76 u77 u78 u79 u80 u81 u82 u83 u84 u85 u86 u87 u88 u89 u90 u91 u92 u93 u94 u95 u96 u97 u98 u99 u100 u101 u102 u103 u104 u105 u106 u107 u108 u109 u110 u111 u112 u113 u114 u115 u116 u117 u118 u119 u120 u121 u122 u123 u124 u125 u126 u127 u128 u129 u130 u131 u132 u133 : Value) (h : Vi x we LV0 NV0 LF (v :: l) LV NV met nxt k bits f st w)
    (hn : l.length ≤ 1000000) (hvn : x.n ≤ 20000) (hm : v.i ∉ met) (hP : ReadsP x.w0 x.B x.A x.n x.c L) (hu : L[v.i]? = some u)
    (hop : u.I.op = 3) (hix : u.I.x = (ixn : Int)) (hix2 : ixn < x.n) (harg : u.I.arg = (ca : Int)) (hca : ca < x.cl) (hcl : x.cl ≤ 1002)
    (hK : ∀ (u1 u3 u4 u5 u8 u9 u10 u11 u12 u13 u14 u15 u16 u17 u18 u19 u20 u21 u22 u23 u24 u25 u26 u27 u28 u29 u30 u31 u32 u33 u34 u35 u36 u37 u38 u39 u40 u41 u42 u43 u44 u45 u46 u47 u48 u49 u50 u51 u52 u53 u54 u55 u56 u57 u58 u59 u60 u61 u62 u63 u64 u65 u66 u67 u68 u69 u70 u71 u72 u73 u74 u75 u76 u77 u78 u79 u80 u81 u82 u83 u84 u85 u86 u87 u88 u89 u90 u91 u92 u93 u94 u95 u96 u97 u98 u99 u100 u101 u102 u103 u104 u105 u106 u107 u108 u109 u110 u111 u112 u113 u114 u115 u116 u117 u118 u119 u120 u121 u122 u123 u124 u125 u126 u127 u128 u129 u130 u131 u132 u133 : Value) (LF' LV' : Value) (st' : Int) (w' : World) (g' : Nat), Vi x we LV0 NV0 LF' (⟨ixn, g', v.c.set ca (k : Int)⟩ :: l) LV' NV (met ++ [v.i]) nxt k bits f st' w' → K ⟨#[(.pointer (some ⟨x.rb, 0, none⟩)), u1, (.func (.func 38) #[.pointer (some ⟨x.rb, 0, none⟩)] #[]), u3, u4, u5, (.bool false), LF', u8, u9, u10, u11, u12, u13, u14, u15, u16, u17, u18, u19, u20, u21, u22, u23, u24, u25, u26, u27, u28, u29, u30, u31, u32, u33, u34, u35, u36, u37, u38, u39, u40, u41, u42, u43, u44, u45, u46, u47, u48, u49, u50, u51, u52, u53, u54, u55, u56, u57, u58, u59, u60, u61, u62, u63, u64, u65, u66, u67, u68, u69, u70, u71, u72, u73, u74, u75, u76, u77, u78, u79, u80, u81, u82, u83, u84, u85, u86, u87, u88, u89, u90, u91, u92, u93, u94, u95, u96, u97, u98, u99, u100, u101, u102, u103, u104, u105, u106, u107, u108, u109, u110, u111, u112, u113, u114, u115, u116, u117, u118, u119, u120, u121, u122, u123, u124, u125, u126, u127, u128, u129, u130, u131, u132, u133], []⟩ w')
    : Code.wp Try.prog visitBody (Exit.then K Q) ⟨#[(.pointer (some ⟨x.rb, 0, none⟩)), u1, (.func (.func 38) #[.pointer (some ⟨x.rb, 0, none⟩)] #[]), u3, u4, u5, (.bool false), LF, u8, u9, u10, u11, u12, u13, u14, u15, u16, u17, u18, u19, u20, u21, u22, u23, u24, u25, u26, u27, u28, u29, u30, u31, u32, u33, u34, u35, u36, u37, u38, u39, u40, u41, u42, u43, u44, u45, u46, u47, u48, u49, u50, u51, u52, u53, u54, u55, u56, u57, u58, u59, u60, u61, u62, u63, u64, u65, u66, u67, u68, u69, u70, u71, u72, u73, u74, u75, u76, u77, u78, u79, u80, u81, u82, u83, u84, u85, u86, u87, u88, u89, u90, u91, u92, u93, u94, u95, u96, u97, u98, u99, u100, u101, u102, u103, u104, u105, u106, u107, u108, u109, u110, u111, u112, u113, u114, u115, u116, u117, u118, u119, u120, u121, u122, u123, u124, u125, u126, u127, u128, u129, u130, u131, u132, u133], []⟩ w := by
  obtain ⟨g, c, rfl, t0, t1, hnc, hg, h1⟩ := h.top
  have HP := Lib.hid hP
  have HU := Lib.hid hu
  obtain ⟨⟨iop, ix, iy, iarg, irng⟩, iA, inn, ic⟩ := u
  obtain rfl : iop = 3 := hop
  obtain rfl : ix = (ixn : Int) := hix
  obtain rfl : iarg = (ca : Int) := harg
  have H1 := Lib.hid h1
  have HK := Lib.hid hK
  have hv := h.ok v List.mem_cons_self
  have HV := Lib.hid hv
  have HVN := Lib.hid hvn
  have HMM := Lib.hid hm
  clear h h1 hK hv hvn hm hP hu
  conv => arg 2; whnf
  go_wp2_with fail
  have hb1 := H1.out.alloc (.cells #[.int .i64 (v.i : Int), .slice (some ⟨v.g, 0, none⟩) x.cl x.cl] 95)
  have hx1 := Blk.new w 95 [.int .i64 (v.i : Int), .slice (some ⟨v.g, 0, none⟩) x.cl x.cl]
  have hv1 : Tok x LV.ownBlock (w.alloc (.cells #[.int .i64 (v.i : Int), .slice (some ⟨v.g, 0, none⟩) x.cl x.cl] 95)) v := HV.out.kept (Kept.alloc (L := []) _) (by simp)
  have hT0 : ∀ q, (Value.slice (some ⟨g, 0, none⟩) l.length c).ownBlock = some q → q < w.heap.size := fun q hq => by simp only [Value.ownBlock, Option.some.injEq] at hq; omega
  rw [show (Obj.cells ([Value.int .i64 (v.i : Int), .slice (some ⟨v.g, 0, none⟩) x.cl x.cl]).toArray 95) = .cells #[.int .i64 (v.i : Int), .slice (some ⟨v.g, 0, none⟩) x.cl x.cl] 95 from rfl] at hx1
  obtain ⟨T0, hT⟩ : ∃ T0, T0 = w.heap.size := ⟨_, rfl⟩
  rw [← hT] at hx1 hT0 ⊢
  clear t0 t1 hg hT
  generalize (w.alloc (.cells #[.int .i64 (v.i : Int), .slice (some ⟨v.g, 0, none⟩) x.cl x.cl] 95)) = w1 at *
  have q1 : w1.cell? ⟨x.rb, 6, none⟩ = some (.pointer (some ⟨x.sb, 0, none⟩)) := hb1.pk.run.cell 6
  have q2 : w1.cell? ⟨T0, 0, none⟩ = some (.int .i64 (v.i : Int)) := hx1.cell 0
  have q3 := hb1.pk.run.lt
  have q4 := hx1.lt
  have hin : (v.i : Int) < (x.n : Int) := by have := hv1.1; omega
  have HADD := Lib.hid (setAdd_new x.B x.sb x.ab x.n v.i LV met w1.drew (hb1.pk.met.drewN 1) hv1.1 (by have := HVN.out; omega) HMM.out (by have := hb1.pk.below.size; exact this))
  have HNT := Lib.hid (hb1.pk.notT hx1)
  have HB1 := Lib.hid hb1
  have HX1 := Lib.hid hx1
  have HV1 := Lib.hid hv1
  have HT0 := Lib.hid hT0
  have q5 : w1.drew.cell? ⟨x.rb, 6, none⟩ = some (.pointer (some ⟨x.sb, 0, none⟩)) := q1
  have q6 : w1.drew.cell? ⟨T0, 0, none⟩ = some (.int .i64 (v.i : Int)) := q2
  clear hb1 hx1 hv1 hT0
  refine wp_region_still_tail 6 (by kernel_rfl) (by kernel_rfl) ?_
  simp only [List.take_succ_cons, List.take_zero, List.drop_succ_cons, List.drop_zero]
  change wpStill _ _ w1.drew _ _ _
  repeat still_step
  refine wpStill_nil ?_
  change wpList _ _ _ _ _ w1.drew
  go_wp2_with (go_at_call 39; refine HADD.out.mono ?_; rintro e w2 ⟨rfl, LV2, hs2, hk2, hl2⟩; have H2 := Lib.hid (HB1.out.drew.added hk2 hs2 hl2); have HX2 := Lib.hid (HX1.out.drew.kept hk2 HNT.out); have HV2 := Lib.hid (HB1.out.pk.drew.tok_added hk2 hl2 (HV1.out.kept (Kept.drew (L := [])) (by simp))); have s0 : w2.cell? ⟨x.rb, 12, none⟩ = some (.int .i64 st) := H2.out.pk.run.cell 12; have s1 := H2.out.pk.run.frozen 12; have s2 := H2.out.pk.run.lt; clear hs2 hk2 hl2; simp only [])
  have H2a := H2.out.stepped (wrap64 (st + 1))
  have HX2a := HX2.out.far (p := ⟨x.rb, 12, none⟩) (HX2.out.ne_ H2.out.pk.run (by decide)) (.int .i64 (wrap64 (st + 1)))
  have HV2a : Tok x LV2.ownBlock (w2.setCell ⟨x.rb, 12, none⟩ (.int .i64 (wrap64 (st + 1)))) v := HV2.out.kept (Kept.setCell _ _) (by intro q hq; rw [List.mem_singleton] at hq; rw [hq]; exact H2.out.pk.wrR)
  clear q1 q2 q3 q4 q5 q6 s0 s1 s2
  generalize w2.setCell ⟨x.rb, 12, none⟩ (.int .i64 (wrap64 (st + 1))) = w3 at *
  generalize (wrap64 (st + 1)) = st3 at *
  have hRP := HP.out.below H2a.pk.below
  obtain ⟨ab, ao, hA, hab⟩ := HP.out.at_ (by omega)
  obtain ⟨i0, i1, i2, i3, i4⟩ := (show ReadsP w3 x.B (some ⟨ab, ao, none⟩) x.n x.c L from by rw [← hA]; exact hRP).cells HU.out
  simp only [] at i0 i1 i2 i3 i4
  have p0 : w3.cell? ⟨x.rb, 0, none⟩ = some (.slice (some ⟨ab, ao, none⟩) x.n x.c) := by rw [← hA]; exact H2a.pk.run.cell 0
  have p1 := H2a.pk.run.lt
  have p2 : w3.cell? ⟨T0, 0, none⟩ = some (.int .i64 (v.i : Int)) := HX2a.cell 0
  have p3 := HX2a.lt
  have p4 : ab < w3.heap.size := Nat.lt_of_lt_of_le hab H2a.pk.below.size
  clear hab
  have H3 := Lib.hid H2a
  have HX3 := Lib.hid HX2a
  have HV3 := Lib.hid HV2a
  have HRP := Lib.hid hRP
  clear H2a HX2a HV2a hRP hA
  go_region
  have H4a := (H3.out.alloc (.cells #[.int .i64 3, .int .i64 (ixn : Int), .int .i64 iy, .int .i64 (ca : Int), .slice iA inn ic] 53)).drew
  have HX4a := (HX3.out.alloc (.cells #[.int .i64 3, .int .i64 (ixn : Int), .int .i64 iy, .int .i64 (ca : Int), .slice iA inn ic] 53)).drew
  have HI4a := (Blk.new w3 53 [.int .i64 3, .int .i64 (ixn : Int), .int .i64 iy, .int .i64 (ca : Int), .slice iA inn ic]).drew
  rw [show (Obj.cells ([.int .i64 3, .int .i64 (ixn : Int), .int .i64 iy, .int .i64 (ca : Int), .slice iA inn ic]).toArray 53) = (.cells #[.int .i64 3, .int .i64 (ixn : Int), .int .i64 iy, .int .i64 (ca : Int), .slice iA inn ic] 53) from rfl] at HI4a
  have HV4a : Tok x LV2.ownBlock (w3.alloc (.cells #[.int .i64 3, .int .i64 (ixn : Int), .int .i64 iy, .int .i64 (ca : Int), .slice iA inn ic] 53)).drew v := HV3.out.kept ((Kept.alloc (L := []) _).trans (Kept.drew (L := []))) (by simp)
  clear p0 p1 p2 p3 p4 i0 i1 i2 i3 i4
  generalize (w3.alloc (.cells #[.int .i64 3, .int .i64 (ixn : Int), .int .i64 iy, .int .i64 (ca : Int), .slice iA inn ic] 53)).drew = w4 at *
  generalize w3.heap.size = I0 at *
  have y1 : w4.cell? ⟨I0, 1, none⟩ = some (.int .i64 (ixn : Int)) := HI4a.cell 1
  have y2 : w4.cell? ⟨I0, 2, none⟩ = some (.int .i64 iy) := HI4a.cell 2
  have y3 : w4.cell? ⟨I0, 3, none⟩ = some (.int .i64 (ca : Int)) := HI4a.cell 3
  have y4 : w4.cell? ⟨I0, 4, none⟩ = some (.slice iA inn ic) := HI4a.cell 4
  have y0 : w4.cell? ⟨I0, 0, none⟩ = some (.int .i64 3) := HI4a.cell 0
  have y5 := HI4a.lt
  have y6 : w4.cell? ⟨T0, 1, none⟩ = some (.slice (some ⟨v.g, 0, none⟩) x.cl x.cl) := HX4a.cell 1
  have y7 := HX4a.lt
  have H4 := Lib.hid H4a
  have HX4 := Lib.hid HX4a
  have HI4 := Lib.hid HI4a
  have HV4 := Lib.hid HV4a
  clear H4a HX4a HI4a HV4a
  go_wp2_with fail
  have e1 : w4.drew.cell? ⟨x.rb, 4, none⟩ = some (.int .i64 (k : Int)) := H4.out.pk.run.cell 4
  have e2 : w4.drew.cell? ⟨I0, 3, none⟩ = some (.int .i64 (ca : Int)) := y3
  have e3 := H4.out.pk.run.lt
  have e4 : w4.drew.cell? ⟨I0, 1, none⟩ = some (.int .i64 (ixn : Int)) := y1
  have e5 : w4.drew.cell? ⟨T0, 1, none⟩ = some (.slice (some ⟨v.g, 0, none⟩) x.cl x.cl) := y6
  have HW := with_any v.g x.cl ca k v.c w4.drew HV4.out.2.blk.drew HV4.out.2.len hca hcl
  have hC1 : x.ab < w4.drew.heap.size := by obtain ⟨_, _, h2, _⟩ := H4.out.pk.met.at_; exact h2.lt
  have hC2 : ∀ q, LV2.ownBlock = some q → q < w4.drew.heap.size := fun q hq => own_lt H4.out.pk.met.own q hq
  obtain ⟨C5, hC⟩ : ∃ C5, C5 = w4.drew.heap.size := ⟨_, rfl⟩
  rw [← hC] at hC1 hC2
  have HW2 : Calls Try.prog 41 #[.slice (some ⟨v.g, 0, none⟩) x.cl x.cl, .int .i64 (ca : Int), .int .i64 (k : Int)] w4.drew fun e w' =>
      e = .returned (.slice (some ⟨C5, 0, none⟩) x.cl x.cl) ∧ Tok x LV2.ownBlock w' ⟨ixn, C5, v.c.set ca (k : Int)⟩ ∧ Vi x we LV0 NV0 (.slice (some ⟨g, 0, none⟩) l.length c) l LV2 NV (met ++ [v.i]) nxt k bits f st3 w' ∧ Blk w' I0 53 [.int .i64 3, .int .i64 (ixn : Int), .int .i64 iy, .int .i64 (ca : Int), .slice iA inn ic] ∧ Blk w' T0 95 [.int .i64 (v.i : Int), .slice (some ⟨v.g, 0, none⟩) x.cl x.cl] := by
    refine HW.mono ?_
    rintro e w' ⟨rfl, hb5, hbel⟩
    rw [← hC] at hb5
    refine ⟨by rw [hC], ⟨hix2, hb5, by rw [List.length_set]; exact HV4.out.2.len, ?_, ?_⟩, H4.out.drew.later hbel, HI4.out.drew.below hbel HI4.out.lt, HX4.out.drew.below hbel HX4.out.lt⟩
    · simp only []; omega
    · simp only []
      intro e
      have := hC2 C5 e.symm
      omega
  have HWH := Lib.hid HW2
  clear HW HW2 hC1 hC2 hC
  have HB1 := Lib.hid (show some I0 ≠ (Value.slice (some ⟨g, 0, none⟩) l.length c).ownBlock from blk_apart H4.out.lf HI4.out (by decide))
  have HB2 := Lib.hid (show some T0 ≠ (Value.slice (some ⟨g, 0, none⟩) l.length c).ownBlock from fun e => by have := HT0.out T0 e.symm; omega)
  have HB3 := Lib.hid H4.out.apart.1
  have kA : w4.drew.cell? ⟨I0, 1, none⟩ = some (.int .i64 (ixn : Int)) ∧ w4.drew.cell? ⟨T0, 1, none⟩ = some (.slice (some ⟨v.g, 0, none⟩) x.cl x.cl) ∧ w4.drew.cell? ⟨I0, 3, none⟩ = some (.int .i64 (ca : Int)) ∧ w4.drew.cell? ⟨x.rb, 4, none⟩ = some (.int .i64 (k : Int)) := ⟨e4, e5, e2, e1⟩
  obtain ⟨i0, hi, hz0, hz1, hz2⟩ := info_parts info_thread
  refine wp_region_noPanic ?_
  go_region_held_law (fun w' => w'.cell? ⟨I0, 1, none⟩ = some (.int .i64 (ixn : Int)) ∧ w'.cell? ⟨T0, 1, none⟩ = some (.slice (some ⟨v.g, 0, none⟩) x.cl x.cl) ∧ w'.cell? ⟨I0, 3, none⟩ = some (.int .i64 (ca : Int)) ∧ w'.cell? ⟨x.rb, 4, none⟩ = some (.int .i64 (k : Int))) (first | exact kA | exact kB | exact kC | exact kD) (first | (go_at_call 41; refine HWH.out.mono ?_; rintro e w5 ⟨rfl, hv5, h5, b1, b2⟩; have H5 := Lib.hid h5; have HV5 := Lib.hid hv5; have HI5 := Lib.hid b1; have HX5 := Lib.hid b2; have kB : w5.cell? ⟨I0, 1, none⟩ = some (.int .i64 (ixn : Int)) ∧ w5.cell? ⟨T0, 1, none⟩ = some (.slice (some ⟨v.g, 0, none⟩) x.cl x.cl) ∧ w5.cell? ⟨I0, 3, none⟩ = some (.int .i64 (ca : Int)) ∧ w5.cell? ⟨x.rb, 4, none⟩ = some (.int .i64 (k : Int)) := ⟨b1.cell 1, b2.cell 1, b1.cell 3, h5.pk.run.cell 4⟩; have kC : (w5.alloc (.cells #[.int .i64 (ixn : Int), .slice (some ⟨C5, 0, none⟩) x.cl x.cl] 95)).cell? ⟨I0, 1, none⟩ = some (.int .i64 (ixn : Int)) ∧ (w5.alloc (.cells #[.int .i64 (ixn : Int), .slice (some ⟨C5, 0, none⟩) x.cl x.cl] 95)).cell? ⟨T0, 1, none⟩ = some (.slice (some ⟨v.g, 0, none⟩) x.cl x.cl) ∧ (w5.alloc (.cells #[.int .i64 (ixn : Int), .slice (some ⟨C5, 0, none⟩) x.cl x.cl] 95)).cell? ⟨I0, 3, none⟩ = some (.int .i64 (ca : Int)) ∧ (w5.alloc (.cells #[.int .i64 (ixn : Int), .slice (some ⟨C5, 0, none⟩) x.cl x.cl] 95)).cell? ⟨x.rb, 4, none⟩ = some (.int .i64 (k : Int)) := ⟨(b1.alloc _).cell 1, (b2.alloc _).cell 1, (b1.alloc _).cell 3, (h5.pk.run.alloc _).cell 4⟩; clear h5 hv5 b1 b2; simp only []) | (refine step_append_lies _ rfl (.tmp 82) (.tmp 95) 72 rfl x.B 95 i0 (.agg #[.int .i64 0, .slice none 0 0]) 2 32 Try.underlying72 hi hz0 hz1 hz2 rfl (by decide) (.slice (some ⟨g, 0, none⟩) l.length c) l.length (thsRow x.cl l.reverse) rfl (own_below H5.out.lf ((Below.refl _ _).alloc (Nat.le_refl _) _)) ⟨w5.heap.size, 0, none⟩ 1 1 [.int .i64 (ixn : Int), .slice (some ⟨C5, 0, none⟩) x.cl x.cl] rfl rfl (new_at w5 _ [.int .i64 (ixn : Int), .slice (some ⟨C5, 0, none⟩) x.cl x.cl]) (by simp [Value.oneCell']) (by decide) (by unfold maxLen; omega) (by omega) (by have : x.B ≤ w5.heap.size := H5.out.pk.below.size; simp; omega) _ rfl ?_; intro g2 cap2 w6 ho2 hg2 hat2 hlt2; have HO2 := Lib.hid ho2; have HG2 := Lib.hid hg2; have HAT2 := Lib.hid hat2; clear ho2 hg2 hat2 hlt2; have kD : w6.cell? ⟨I0, 1, none⟩ = some (.int .i64 (ixn : Int)) ∧ w6.cell? ⟨T0, 1, none⟩ = some (.slice (some ⟨v.g, 0, none⟩) x.cl x.cl) ∧ w6.cell? ⟨I0, 3, none⟩ = some (.int .i64 (ca : Int)) ∧ w6.cell? ⟨x.rb, 4, none⟩ = some (.int .i64 (k : Int)) := ⟨((HI5.out.alloc _).grown HG2.out HB1.out).cell 1, ((HX5.out.alloc _).grown HG2.out HB2.out).cell 1, ((HI5.out.alloc _).grown HG2.out HB1.out).cell 3, ((H5.out.pk.run.alloc _).grown HG2.out HB3.out).cell 4⟩))
  all_goals
    refine NoPanic.normal ?_
    go_wp2_with fail
    rename_i dq hq
    obtain rfl : 96 = dq := Option.some.inj hq
    try simp only [Act.put, List.setIfInBounds_toArray, List.set_cons_zero, List.set_cons_succ]
    apply HK.out (g' := C5)
    have H6 := H5.out.alloc (.cells #[.int .i64 (ixn : Int), .slice (some ⟨C5, 0, none⟩) x.cl x.cl] 95)
    refine H6.pushed (Kept.of_grown' HG2.out) ?_ ?_ ?_
    · rw [TV.row_snoc]
      exact HO2.out
    · rcases HAT2.out with e | e
      · exact .inl (by rw [e]; rfl)
      · exact .inr ⟨g2, Nat.le_of_eq e.symm, rfl⟩
    · intro z hz
      rcases List.mem_cons.1 hz with rfl | hz
      · exact (HV5.out.kept (Kept.alloc (L := []) _) (by simp))
      · exact H6.ok z hz


end Go.Proofs.Yteiggbbljgkloaa
