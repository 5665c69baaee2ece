/- pike.visit: a round. -/
import Derived.Test.YteiggbbljgkloaaQVis0
namespace Go.Proofs.Yteiggbbljgkloaa
open Go.RowKit Go.Proofs.Yteiggbbljgkloaa.Mach

set_option maxRecDepth 1000000 in
set_option maxHeartbeats 4000000 in
theorem vround_out {x : Px} {we : World} {LV0 NV0 LF LV NV : Value} {l : List TV} {v : TV} {met : List Nat} {nxt : List TV} {k : Nat} {bits st : Int} {f : Option Fd} {w : World} {K : Act → World → Prop} {Q : Exit → Act → World → Prop} {L : List InV} {u : InV} {t : List Int} (u1 u3 u4 u5 u8 u9 u10 u11 u12 u13 u14 u15 u16 u17 u18 u19 u20 u21 u22 u23 u24 u25 u26 u27 u28 u29 u30 u31 u32 u33 u34 u35 u36 u37 u38 u39 u40 u41 u42 u43 u44 u45 u46 u47 u48 u49 u50 u51 u52 u53 u54 u55 u56 u57 u58 u59 u60 u61 u62 u63 u64 u65 u66 u67 u68 u69 u70 u71 u72 u73 u74 u75 u76 u77 u78 u79 u80 u81 u82 u83 u84 u85 u86 u87 u88 u89 u90 u91 u92 u93 u94 u95 u96 u97 u98 u99 u100 u101 u102 u103 u104 u105 u106 u107 u108 u109 u110 u111 u112 u113 u114 u115 u116 u117 u118 u119 u120 u121 u122 u123 u124 u125 u126 u127 u128 u129 u130 u131 u132 u133 : Value) (h : Vi x we LV0 NV0 LF (v :: l) LV NV met nxt k bits f st w)
    (hn : l.length ≤ 1000000) (hvn : x.n ≤ 20000) (hm : v.i ∉ met) (hP : ReadsP x.w0 x.B x.A x.n x.c L) (hu : L[v.i]? = some u)
    (hT : Reads x.w0 x.B 1 x.At x.nt x.ct (t.map (Value.int .i64))) (hk : k ≤ x.nt) (hnt : x.nt ≤ 4194304)
    (hop : u.I.op = 1) (hright : rightB u.I.rng = true) (hb : (decide (k < x.nt) && memB u.I.rng (t.getD k 0)) = false)
    (hK : ∀ (u1 u3 u4 u5 u8 u9 u10 u11 u12 u13 u14 u15 u16 u17 u18 u19 u20 u21 u22 u23 u24 u25 u26 u27 u28 u29 u30 u31 u32 u33 u34 u35 u36 u37 u38 u39 u40 u41 u42 u43 u44 u45 u46 u47 u48 u49 u50 u51 u52 u53 u54 u55 u56 u57 u58 u59 u60 u61 u62 u63 u64 u65 u66 u67 u68 u69 u70 u71 u72 u73 u74 u75 u76 u77 u78 u79 u80 u81 u82 u83 u84 u85 u86 u87 u88 u89 u90 u91 u92 u93 u94 u95 u96 u97 u98 u99 u100 u101 u102 u103 u104 u105 u106 u107 u108 u109 u110 u111 u112 u113 u114 u115 u116 u117 u118 u119 u120 u121 u122 u123 u124 u125 u126 u127 u128 u129 u130 u131 u132 u133 : Value) (LF' LV' : Value) (st' : Int) (w' : World), Vi x we LV0 NV0 LF' l LV' NV (met ++ [v.i]) nxt k bits f st' w' → K ⟨#[(.pointer (some ⟨x.rb, 0, none⟩)), u1, (.func (.func 38) #[.pointer (some ⟨x.rb, 0, none⟩)] #[]), u3, u4, u5, (.bool false), LF', u8, u9, u10, u11, u12, u13, u14, u15, u16, u17, u18, u19, u20, u21, u22, u23, u24, u25, u26, u27, u28, u29, u30, u31, u32, u33, u34, u35, u36, u37, u38, u39, u40, u41, u42, u43, u44, u45, u46, u47, u48, u49, u50, u51, u52, u53, u54, u55, u56, u57, u58, u59, u60, u61, u62, u63, u64, u65, u66, u67, u68, u69, u70, u71, u72, u73, u74, u75, u76, u77, u78, u79, u80, u81, u82, u83, u84, u85, u86, u87, u88, u89, u90, u91, u92, u93, u94, u95, u96, u97, u98, u99, u100, u101, u102, u103, u104, u105, u106, u107, u108, u109, u110, u111, u112, u113, u114, u115, u116, u117, u118, u119, u120, u121, u122, u123, u124, u125, u126, u127, u128, u129, u130, u131, u132, u133], []⟩ w')
    : Code.wp Try.prog visitBody (Exit.then K Q) ⟨#[(.pointer (some ⟨x.rb, 0, none⟩)), u1, (.func (.func 38) #[.pointer (some ⟨x.rb, 0, none⟩)] #[]), u3, u4, u5, (.bool false), LF, u8, u9, u10, u11, u12, u13, u14, u15, u16, u17, u18, u19, u20, u21, u22, u23, u24, u25, u26, u27, u28, u29, u30, u31, u32, u33, u34, u35, u36, u37, u38, u39, u40, u41, u42, u43, u44, u45, u46, u47, u48, u49, u50, u51, u52, u53, u54, u55, u56, u57, u58, u59, u60, u61, u62, u63, u64, u65, u66, u67, u68, u69, u70, u71, u72, u73, u74, u75, u76, u77, u78, u79, u80, u81, u82, u83, u84, u85, u86, u87, u88, u89, u90, u91, u92, u93, u94, u95, u96, u97, u98, u99, u100, u101, u102, u103, u104, u105, u106, u107, u108, u109, u110, u111, u112, u113, u114, u115, u116, u117, u118, u119, u120, u121, u122, u123, u124, u125, u126, u127, u128, u129, u130, u131, u132, u133], []⟩ w := by
  obtain ⟨g, c, rfl, t0, t1, hnc, hg, h1⟩ := h.top
  have HP := Lib.hid hP
  have HU := Lib.hid hu
  obtain ⟨⟨iop, ix, iy, iarg, irng⟩, iA, inn, ic⟩ := u
  obtain rfl : iop = 1 := hop
  have HT := Lib.hid hT
  clear hT
  simp only [] at hright hb
  have HBB := Lib.hid hb
  clear hb
  have H1 := Lib.hid h1
  have HK := Lib.hid hK
  have hv := h.ok v List.mem_cons_self
  have HV := Lib.hid hv
  have HVN := Lib.hid hvn
  have HMM := Lib.hid hm
  clear h h1 hK hv hvn hm hP hu
  conv => arg 2; whnf
  go_wp2_with fail
  have hb1 := H1.out.alloc (.cells #[.int .i64 (v.i : Int), .slice (some ⟨v.g, 0, none⟩) x.cl x.cl] 95)
  have hx1 := Blk.new w 95 [.int .i64 (v.i : Int), .slice (some ⟨v.g, 0, none⟩) x.cl x.cl]
  have hv1 : Tok x LV.ownBlock (w.alloc (.cells #[.int .i64 (v.i : Int), .slice (some ⟨v.g, 0, none⟩) x.cl x.cl] 95)) v := HV.out.kept (Kept.alloc (L := []) _) (by simp)
  have hT0 : ∀ q, (Value.slice (some ⟨g, 0, none⟩) l.length c).ownBlock = some q → q < w.heap.size := fun q hq => by simp only [Value.ownBlock, Option.some.injEq] at hq; omega
  rw [show (Obj.cells ([Value.int .i64 (v.i : Int), .slice (some ⟨v.g, 0, none⟩) x.cl x.cl]).toArray 95) = .cells #[.int .i64 (v.i : Int), .slice (some ⟨v.g, 0, none⟩) x.cl x.cl] 95 from rfl] at hx1
  obtain ⟨T0, hT⟩ : ∃ T0, T0 = w.heap.size := ⟨_, rfl⟩
  rw [← hT] at hx1 hT0 ⊢
  clear t0 t1 hg hT
  generalize (w.alloc (.cells #[.int .i64 (v.i : Int), .slice (some ⟨v.g, 0, none⟩) x.cl x.cl] 95)) = w1 at *
  have q1 : w1.cell? ⟨x.rb, 6, none⟩ = some (.pointer (some ⟨x.sb, 0, none⟩)) := hb1.pk.run.cell 6
  have q2 : w1.cell? ⟨T0, 0, none⟩ = some (.int .i64 (v.i : Int)) := hx1.cell 0
  have q3 := hb1.pk.run.lt
  have q4 := hx1.lt
  have hin : (v.i : Int) < (x.n : Int) := by have := hv1.1; omega
  have HADD := Lib.hid (setAdd_new x.B x.sb x.ab x.n v.i LV met w1.drew (hb1.pk.met.drewN 1) hv1.1 (by have := HVN.out; omega) HMM.out (by have := hb1.pk.below.size; exact this))
  have HNT := Lib.hid (hb1.pk.notT hx1)
  have HB1 := Lib.hid hb1
  have HX1 := Lib.hid hx1
  have HV1 := Lib.hid hv1
  have HT0 := Lib.hid hT0
  have q5 : w1.drew.cell? ⟨x.rb, 6, none⟩ = some (.pointer (some ⟨x.sb, 0, none⟩)) := q1
  have q6 : w1.drew.cell? ⟨T0, 0, none⟩ = some (.int .i64 (v.i : Int)) := q2
  clear hb1 hx1 hv1 hT0
  refine wp_region_still_tail 6 (by kernel_rfl) (by kernel_rfl) ?_
  simp only [List.take_succ_cons, List.take_zero, List.drop_succ_cons, List.drop_zero]
  change wpStill _ _ w1.drew _ _ _
  repeat still_step
  refine wpStill_nil ?_
  change wpList _ _ _ _ _ w1.drew
  go_wp2_with (go_at_call 39; refine HADD.out.mono ?_; rintro e w2 ⟨rfl, LV2, hs2, hk2, hl2⟩; have H2 := Lib.hid (HB1.out.drew.added hk2 hs2 hl2); have HX2 := Lib.hid (HX1.out.drew.kept hk2 HNT.out); have HV2 := Lib.hid (HB1.out.pk.drew.tok_added hk2 hl2 (HV1.out.kept (Kept.drew (L := [])) (by simp))); have s0 : w2.cell? ⟨x.rb, 12, none⟩ = some (.int .i64 st) := H2.out.pk.run.cell 12; have s1 := H2.out.pk.run.frozen 12; have s2 := H2.out.pk.run.lt; clear hs2 hk2 hl2; simp only [])
  have H2a := H2.out.stepped (wrap64 (st + 1))
  have HX2a := HX2.out.far (p := ⟨x.rb, 12, none⟩) (HX2.out.ne_ H2.out.pk.run (by decide)) (.int .i64 (wrap64 (st + 1)))
  have HV2a : Tok x LV2.ownBlock (w2.setCell ⟨x.rb, 12, none⟩ (.int .i64 (wrap64 (st + 1)))) v := HV2.out.kept (Kept.setCell _ _) (by intro q hq; rw [List.mem_singleton] at hq; rw [hq]; exact H2.out.pk.wrR)
  clear q1 q2 q3 q4 q5 q6 s0 s1 s2
  generalize w2.setCell ⟨x.rb, 12, none⟩ (.int .i64 (wrap64 (st + 1))) = w3 at *
  generalize (wrap64 (st + 1)) = st3 at *
  have hRP := HP.out.below H2a.pk.below
  obtain ⟨ab, ao, hA, hab⟩ := HP.out.at_ (by omega)
  obtain ⟨i0, i1, i2, i3, i4⟩ := (show ReadsP w3 x.B (some ⟨ab, ao, none⟩) x.n x.c L from by rw [← hA]; exact hRP).cells HU.out
  simp only [] at i0 i1 i2 i3 i4
  have p0 : w3.cell? ⟨x.rb, 0, none⟩ = some (.slice (some ⟨ab, ao, none⟩) x.n x.c) := by rw [← hA]; exact H2a.pk.run.cell 0
  have p1 := H2a.pk.run.lt
  have p2 : w3.cell? ⟨T0, 0, none⟩ = some (.int .i64 (v.i : Int)) := HX2a.cell 0
  have p3 := HX2a.lt
  have p4 : ab < w3.heap.size := Nat.lt_of_lt_of_le hab H2a.pk.below.size
  clear hab
  have H3 := Lib.hid H2a
  have HX3 := Lib.hid HX2a
  have HV3 := Lib.hid HV2a
  have HRP := Lib.hid hRP
  clear H2a HX2a HV2a hRP hA
  go_region
  have H4a := (H3.out.alloc (.cells #[.int .i64 1, .int .i64 ix, .int .i64 iy, .int .i64 iarg, .slice iA inn ic] 53)).drew
  have HX4a := (HX3.out.alloc (.cells #[.int .i64 1, .int .i64 ix, .int .i64 iy, .int .i64 iarg, .slice iA inn ic] 53)).drew
  have HI4a := (Blk.new w3 53 [.int .i64 1, .int .i64 ix, .int .i64 iy, .int .i64 iarg, .slice iA inn ic]).drew
  rw [show (Obj.cells ([.int .i64 1, .int .i64 ix, .int .i64 iy, .int .i64 iarg, .slice iA inn ic]).toArray 53) = (.cells #[.int .i64 1, .int .i64 ix, .int .i64 iy, .int .i64 iarg, .slice iA inn ic] 53) from rfl] at HI4a
  have HV4a : Tok x LV2.ownBlock (w3.alloc (.cells #[.int .i64 1, .int .i64 ix, .int .i64 iy, .int .i64 iarg, .slice iA inn ic] 53)).drew v := HV3.out.kept ((Kept.alloc (L := []) _).trans (Kept.drew (L := []))) (by simp)
  clear p0 p1 p2 p3 p4 i0 i1 i2 i3 i4
  generalize (w3.alloc (.cells #[.int .i64 1, .int .i64 ix, .int .i64 iy, .int .i64 iarg, .slice iA inn ic] 53)).drew = w4 at *
  generalize w3.heap.size = I0 at *
  have y1 : w4.cell? ⟨I0, 1, none⟩ = some (.int .i64 ix) := HI4a.cell 1
  have y2 : w4.cell? ⟨I0, 2, none⟩ = some (.int .i64 iy) := HI4a.cell 2
  have y3 : w4.cell? ⟨I0, 3, none⟩ = some (.int .i64 iarg) := HI4a.cell 3
  have y4 : w4.cell? ⟨I0, 4, none⟩ = some (.slice iA inn ic) := HI4a.cell 4
  have y0 : w4.cell? ⟨I0, 0, none⟩ = some (.int .i64 1) := HI4a.cell 0
  have y5 := HI4a.lt
  have y6 : w4.cell? ⟨T0, 1, none⟩ = some (.slice (some ⟨v.g, 0, none⟩) x.cl x.cl) := HX4a.cell 1
  have y7 := HX4a.lt
  have H4 := Lib.hid H4a
  have HX4 := Lib.hid HX4a
  have HI4 := Lib.hid HI4a
  have HV4 := Lib.hid HV4a
  clear H4a HX4a HI4a HV4a
  have hu4 := (HP.out.below H4.out.pk.below).2 _ (List.mem_of_getElem? HU.out)
  simp only [] at hu4
  have HFITS := Lib.hid (fits_any x LV2 NV (met ++ [v.i]) nxt k bits f st3 w4 iA inn ic irng t H4.out.pk ((HT.out.below H4.out.pk.below).more H4.out.pk.below.size) (hu4.1.more H4.out.pk.below.size) hright hk hnt)
  clear hu4
  go_wp2_with (go_at_call 40; refine HFITS.out.mono ?_; rintro e w5 ⟨rfl, m, rfl⟩; rw [HBB.out]; simp only [])
  apply HK.out
  exact H4.out.drewN m


set_option maxRecDepth 1000000 in
set_option maxHeartbeats 4000000 in
theorem vround_rune {x : Px} {we : World} {LV0 NV0 LF LV NV : Value} {l : List TV} {v : TV} {met : List Nat} {nxt : List TV} {k : Nat} {bits st : Int} {f : Option Fd} {w : World} {K : Act → World → Prop} {Q : Exit → Act → World → Prop} {L : List InV} {u : InV} {ixn : Nat} {t : List Int} (u1 u3 u4 u5 u8 u9 u10 u11 u12 u13 u14 u15 u16 u17 u18 u19 u20 u21 u22 u23 u24 u25 u26 u27 u28 u29 u30 u31 u32 u33 u34 u35 u36 u37 u38 u39 u40 u41 u42 u43 u44 u45 u46 u47 u48 u49 u50 u51 u52 u53 u54 u55 u56 u57 u58 u59 u60 u61 u62 u63 u64 u65 u66 u67 u68 u69 u70 u71 u72 u73 u74 u75 u76 u77 u78 u79 u80 u81 u82 u83 u84 u85 u86 u87 u88 u89 u90 u91 u92 u93 u94 u95 u96 u97 u98 u99 u100 u101 u102 u103 u104 u105 u106 u107 u108 u109 u110 u111 u112 u113 u114 u115 u116 u117 u118 u119 u120 u121 u122 u123 u124 u125 u126 u127 u128 u129 u130 u131 u132 u133 : Value) (h : Vi x we LV0 NV0 LF (v :: l) LV NV met nxt k bits f st w)
    (hn : l.length ≤ 1000000) (hvn : x.n ≤ 20000) (hm : v.i ∉ met) (hP : ReadsP x.w0 x.B x.A x.n x.c L) (hu : L[v.i]? = some u)
    (hT : Reads x.w0 x.B 1 x.At x.nt x.ct (t.map (Value.int .i64))) (hk : k ≤ x.nt) (hnt : x.nt ≤ 4194304)
    (hop : u.I.op = 1) (hix : u.I.x = (ixn : Int)) (hix2 : ixn < x.n) (hnx : nxt.length ≤ 1000000000) (hright : rightB u.I.rng = true) (hb : (decide (k < x.nt) && memB u.I.rng (t.getD k 0)) = true)
    (hK : ∀ (u1 u3 u4 u5 u8 u9 u10 u11 u12 u13 u14 u15 u16 u17 u18 u19 u20 u21 u22 u23 u24 u25 u26 u27 u28 u29 u30 u31 u32 u33 u34 u35 u36 u37 u38 u39 u40 u41 u42 u43 u44 u45 u46 u47 u48 u49 u50 u51 u52 u53 u54 u55 u56 u57 u58 u59 u60 u61 u62 u63 u64 u65 u66 u67 u68 u69 u70 u71 u72 u73 u74 u75 u76 u77 u78 u79 u80 u81 u82 u83 u84 u85 u86 u87 u88 u89 u90 u91 u92 u93 u94 u95 u96 u97 u98 u99 u100 u101 u102 u103 u104 u105 u106 u107 u108 u109 u110 u111 u112 u113 u114 u115 u116 u117 u118 u119 u120 u121 u122 u123 u124 u125 u126 u127 u128 u129 u130 u131 u132 u133 : Value) (LF' LV' NV' : Value) (st' : Int) (w' : World), Vi x we LV0 NV0 LF' l LV' NV' (met ++ [v.i]) (nxt ++ [⟨ixn, v.g, v.c⟩]) k bits f st' w' → K ⟨#[(.pointer (some ⟨x.rb, 0, none⟩)), u1, (.func (.func 38) #[.pointer (some ⟨x.rb, 0, none⟩)] #[]), u3, u4, u5, (.bool false), LF', u8, u9, u10, u11, u12, u13, u14, u15, u16, u17, u18, u19, u20, u21, u22, u23, u24, u25, u26, u27, u28, u29, u30, u31, u32, u33, u34, u35, u36, u37, u38, u39, u40, u41, u42, u43, u44, u45, u46, u47, u48, u49, u50, u51, u52, u53, u54, u55, u56, u57, u58, u59, u60, u61, u62, u63, u64, u65, u66, u67, u68, u69, u70, u71, u72, u73, u74, u75, u76, u77, u78, u79, u80, u81, u82, u83, u84, u85, u86, u87, u88, u89, u90, u91, u92, u93, u94, u95, u96, u97, u98, u99, u100, u101, u102, u103, u104, u105, u106, u107, u108, u109, u110, u111, u112, u113, u114, u115, u116, u117, u118, u119, u120, u121, u122, u123, u124, u125, u126, u127, u128, u129, u130, u131, u132, u133], []⟩ w')
    : Code.wp Try.prog visitBody (Exit.then K Q) ⟨#[(.pointer (some ⟨x.rb, 0, none⟩)), u1, (.func (.func 38) #[.pointer (some ⟨x.rb, 0, none⟩)] #[]), u3, u4, u5, (.bool false), LF, u8, u9, u10, u11, u12, u13, u14, u15, u16, u17, u18, u19, u20, u21, u22, u23, u24, u25, u26, u27, u28, u29, u30, u31, u32, u33, u34, u35, u36, u37, u38, u39, u40, u41, u42, u43, u44, u45, u46, u47, u48, u49, u50, u51, u52, u53, u54, u55, u56, u57, u58, u59, u60, u61, u62, u63, u64, u65, u66, u67, u68, u69, u70, u71, u72, u73, u74, u75, u76, u77, u78, u79, u80, u81, u82, u83, u84, u85, u86, u87, u88, u89, u90, u91, u92, u93, u94, u95, u96, u97, u98, u99, u100, u101, u102, u103, u104, u105, u106, u107, u108, u109, u110, u111, u112, u113, u114, u115, u116, u117, u118, u119, u120, u121, u122, u123, u124, u125, u126, u127, u128, u129, u130, u131, u132, u133], []⟩ w := by
  obtain ⟨g, c, rfl, t0, t1, hnc, hg, h1⟩ := h.top
  have HP := Lib.hid hP
  have HU := Lib.hid hu
  obtain ⟨⟨iop, ix, iy, iarg, irng⟩, iA, inn, ic⟩ := u
  obtain rfl : iop = 1 := hop
  obtain rfl : ix = (ixn : Int) := hix
  have HT := Lib.hid hT
  clear hT
  simp only [] at hright hb
  have HBB := Lib.hid hb
  clear hb
  have H1 := Lib.hid h1
  have HK := Lib.hid hK
  have hv := h.ok v List.mem_cons_self
  have HV := Lib.hid hv
  have HVN := Lib.hid hvn
  have HMM := Lib.hid hm
  clear h h1 hK hv hvn hm hP hu
  conv => arg 2; whnf
  go_wp2_with fail
  have hb1 := H1.out.alloc (.cells #[.int .i64 (v.i : Int), .slice (some ⟨v.g, 0, none⟩) x.cl x.cl] 95)
  have hx1 := Blk.new w 95 [.int .i64 (v.i : Int), .slice (some ⟨v.g, 0, none⟩) x.cl x.cl]
  have hv1 : Tok x LV.ownBlock (w.alloc (.cells #[.int .i64 (v.i : Int), .slice (some ⟨v.g, 0, none⟩) x.cl x.cl] 95)) v := HV.out.kept (Kept.alloc (L := []) _) (by simp)
  have hT0 : ∀ q, (Value.slice (some ⟨g, 0, none⟩) l.length c).ownBlock = some q → q < w.heap.size := fun q hq => by simp only [Value.ownBlock, Option.some.injEq] at hq; omega
  rw [show (Obj.cells ([Value.int .i64 (v.i : Int), .slice (some ⟨v.g, 0, none⟩) x.cl x.cl]).toArray 95) = .cells #[.int .i64 (v.i : Int), .slice (some ⟨v.g, 0, none⟩) x.cl x.cl] 95 from rfl] at hx1
  obtain ⟨T0, hT⟩ : ∃ T0, T0 = w.heap.size := ⟨_, rfl⟩
  rw [← hT] at hx1 hT0 ⊢
  clear t0 t1 hg hT
  generalize (w.alloc (.cells #[.int .i64 (v.i : Int), .slice (some ⟨v.g, 0, none⟩) x.cl x.cl] 95)) = w1 at *
  have q1 : w1.cell? ⟨x.rb, 6, none⟩ = some (.pointer (some ⟨x.sb, 0, none⟩)) := hb1.pk.run.cell 6
  have q2 : w1.cell? ⟨T0, 0, none⟩ = some (.int .i64 (v.i : Int)) := hx1.cell 0
  have q3 := hb1.pk.run.lt
  have q4 := hx1.lt
  have hin : (v.i : Int) < (x.n : Int) := by have := hv1.1; omega
  have HADD := Lib.hid (setAdd_new x.B x.sb x.ab x.n v.i LV met w1.drew (hb1.pk.met.drewN 1) hv1.1 (by have := HVN.out; omega) HMM.out (by have := hb1.pk.below.size; exact this))
  have HNT := Lib.hid (hb1.pk.notT hx1)
  have HB1 := Lib.hid hb1
  have HX1 := Lib.hid hx1
  have HV1 := Lib.hid hv1
  have HT0 := Lib.hid hT0
  have q5 : w1.drew.cell? ⟨x.rb, 6, none⟩ = some (.pointer (some ⟨x.sb, 0, none⟩)) := q1
  have q6 : w1.drew.cell? ⟨T0, 0, none⟩ = some (.int .i64 (v.i : Int)) := q2
  clear hb1 hx1 hv1 hT0
  refine wp_region_still_tail 6 (by kernel_rfl) (by kernel_rfl) ?_
  simp only [List.take_succ_cons, List.take_zero, List.drop_succ_cons, List.drop_zero]
  change wpStill _ _ w1.drew _ _ _
  repeat still_step
  refine wpStill_nil ?_
  change wpList _ _ _ _ _ w1.drew
  go_wp2_with (go_at_call 39; refine HADD.out.mono ?_; rintro e w2 ⟨rfl, LV2, hs2, hk2, hl2⟩; have H2 := Lib.hid (HB1.out.drew.added hk2 hs2 hl2); have HX2 := Lib.hid (HX1.out.drew.kept hk2 HNT.out); have HV2 := Lib.hid (HB1.out.pk.drew.tok_added hk2 hl2 (HV1.out.kept (Kept.drew (L := [])) (by simp))); have s0 : w2.cell? ⟨x.rb, 12, none⟩ = some (.int .i64 st) := H2.out.pk.run.cell 12; have s1 := H2.out.pk.run.frozen 12; have s2 := H2.out.pk.run.lt; clear hs2 hk2 hl2; simp only [])
  have H2a := H2.out.stepped (wrap64 (st + 1))
  have HX2a := HX2.out.far (p := ⟨x.rb, 12, none⟩) (HX2.out.ne_ H2.out.pk.run (by decide)) (.int .i64 (wrap64 (st + 1)))
  have HV2a : Tok x LV2.ownBlock (w2.setCell ⟨x.rb, 12, none⟩ (.int .i64 (wrap64 (st + 1)))) v := HV2.out.kept (Kept.setCell _ _) (by intro q hq; rw [List.mem_singleton] at hq; rw [hq]; exact H2.out.pk.wrR)
  clear q1 q2 q3 q4 q5 q6 s0 s1 s2
  generalize w2.setCell ⟨x.rb, 12, none⟩ (.int .i64 (wrap64 (st + 1))) = w3 at *
  generalize (wrap64 (st + 1)) = st3 at *
  have hRP := HP.out.below H2a.pk.below
  obtain ⟨ab, ao, hA, hab⟩ := HP.out.at_ (by omega)
  obtain ⟨i0, i1, i2, i3, i4⟩ := (show ReadsP w3 x.B (some ⟨ab, ao, none⟩) x.n x.c L from by rw [← hA]; exact hRP).cells HU.out
  simp only [] at i0 i1 i2 i3 i4
  have p0 : w3.cell? ⟨x.rb, 0, none⟩ = some (.slice (some ⟨ab, ao, none⟩) x.n x.c) := by rw [← hA]; exact H2a.pk.run.cell 0
  have p1 := H2a.pk.run.lt
  have p2 : w3.cell? ⟨T0, 0, none⟩ = some (.int .i64 (v.i : Int)) := HX2a.cell 0
  have p3 := HX2a.lt
  have p4 : ab < w3.heap.size := Nat.lt_of_lt_of_le hab H2a.pk.below.size
  clear hab
  have H3 := Lib.hid H2a
  have HX3 := Lib.hid HX2a
  have HV3 := Lib.hid HV2a
  have HRP := Lib.hid hRP
  clear H2a HX2a HV2a hRP hA
  go_region
  have H4a := (H3.out.alloc (.cells #[.int .i64 1, .int .i64 (ixn : Int), .int .i64 iy, .int .i64 iarg, .slice iA inn ic] 53)).drew
  have HX4a := (HX3.out.alloc (.cells #[.int .i64 1, .int .i64 (ixn : Int), .int .i64 iy, .int .i64 iarg, .slice iA inn ic] 53)).drew
  have HI4a := (Blk.new w3 53 [.int .i64 1, .int .i64 (ixn : Int), .int .i64 iy, .int .i64 iarg, .slice iA inn ic]).drew
  rw [show (Obj.cells ([.int .i64 1, .int .i64 (ixn : Int), .int .i64 iy, .int .i64 iarg, .slice iA inn ic]).toArray 53) = (.cells #[.int .i64 1, .int .i64 (ixn : Int), .int .i64 iy, .int .i64 iarg, .slice iA inn ic] 53) from rfl] at HI4a
  have HV4a : Tok x LV2.ownBlock (w3.alloc (.cells #[.int .i64 1, .int .i64 (ixn : Int), .int .i64 iy, .int .i64 iarg, .slice iA inn ic] 53)).drew v := HV3.out.kept ((Kept.alloc (L := []) _).trans (Kept.drew (L := []))) (by simp)
  clear p0 p1 p2 p3 p4 i0 i1 i2 i3 i4
  generalize (w3.alloc (.cells #[.int .i64 1, .int .i64 (ixn : Int), .int .i64 iy, .int .i64 iarg, .slice iA inn ic] 53)).drew = w4 at *
  generalize w3.heap.size = I0 at *
  have y1 : w4.cell? ⟨I0, 1, none⟩ = some (.int .i64 (ixn : Int)) := HI4a.cell 1
  have y2 : w4.cell? ⟨I0, 2, none⟩ = some (.int .i64 iy) := HI4a.cell 2
  have y3 : w4.cell? ⟨I0, 3, none⟩ = some (.int .i64 iarg) := HI4a.cell 3
  have y4 : w4.cell? ⟨I0, 4, none⟩ = some (.slice iA inn ic) := HI4a.cell 4
  have y0 : w4.cell? ⟨I0, 0, none⟩ = some (.int .i64 1) := HI4a.cell 0
  have y5 := HI4a.lt
  have y6 : w4.cell? ⟨T0, 1, none⟩ = some (.slice (some ⟨v.g, 0, none⟩) x.cl x.cl) := HX4a.cell 1
  have y7 := HX4a.lt
  have H4 := Lib.hid H4a
  have HX4 := Lib.hid HX4a
  have HI4 := Lib.hid HI4a
  have HV4 := Lib.hid HV4a
  clear H4a HX4a HI4a HV4a
  have hu4 := (HP.out.below H4.out.pk.below).2 _ (List.mem_of_getElem? HU.out)
  simp only [] at hu4
  have HFITS := Lib.hid (fits_any x LV2 NV (met ++ [v.i]) nxt k bits f st3 w4 iA inn ic irng t H4.out.pk ((HT.out.below H4.out.pk.below).more H4.out.pk.below.size) (hu4.1.more H4.out.pk.below.size) hright hk hnt)
  clear hu4
  have HPUT := Lib.hid (fun m => put_any x LV2 NV (met ++ [v.i]) nxt k bits f st3 (w4.drewN m) ⟨ixn, v.g, v.c⟩ (H4.out.pk.drewN m) ⟨hix2, (HV4.out.kept (Kept.drewN (L := []) m) (by simp)).2⟩ hnx)
  simp only [] at HPUT
  go_wp2_with (first | (go_at_call 38; refine (HPUT.out m).mono ?_; rintro e w6 ⟨rfl, NV6, hp6, hk6, ho6⟩; have H6 := Lib.hid ((H4.out.drewN m).putted hp6 hk6 ho6); clear hp6 hk6 ho6; simp only []) | (go_at_call 40; refine HFITS.out.mono ?_; rintro e w5 ⟨rfl, m, rfl⟩; rw [HBB.out]; have d1 : (w4.drewN m).cell? ⟨I0, 1, none⟩ = some (.int .i64 (ixn : Int)) := y1; have d2 : (w4.drewN m).cell? ⟨T0, 1, none⟩ = some (.slice (some ⟨v.g, 0, none⟩) x.cl x.cl) := y6; simp only []))
  apply HK.out
  exact H6.out

end Go.Proofs.Yteiggbbljgkloaa
