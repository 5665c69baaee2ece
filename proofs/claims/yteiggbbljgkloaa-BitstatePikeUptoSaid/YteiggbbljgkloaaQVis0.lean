/- pike.visit: the body of its loop, its frame. -/
import Derived.Test.YteiggbbljgkloaaQVis
import Derived.Deep.LoopGhost
import Derived.BigQuiet
import Derived.Deep.QuietTactic
import Derived.WalkLawsBesides
import Derived.Deep.RegionWith
import Derived.StillTailTactics
import Derived.Deep.RegionHeld3
namespace Go.Proofs.Yteiggbbljgkloaa
open Go.RowKit Go.Proofs.Yteiggbbljgkloaa.Mach

/-- The bodies of the loops of a code, in their order. -/
def loopsIn : Code → List Code
  | .loop c => c :: loopsIn c
  | .seq a b => loopsIn a ++ loopsIn b
  | .block _ c => loopsIn c
  | .scope c => loopsIn c
  | .cond _ a b => loopsIn a ++ loopsIn b
  | _ => []
noncomputable def visitBody : Code := (((Try.f29.body.map loopsIn).getD [])[0]?).getD .skip

set_option maxRecDepth 1000000 in
set_option maxHeartbeats 4000000 in
theorem vround_empty {x : Px} {we : World} {LV0 NV0 LF LV NV : Value} {l : List TV} {v : TV} {met : List Nat} {nxt : List TV} {k : Nat} {bits st : Int} {f : Option Fd} {w : World} {K : Act → World → Prop} {Q : Exit → Act → World → Prop}  (u1 u3 u4 u5 u8 u9 u10 u11 u12 u13 u14 u15 u16 u17 u18 u19 u20 u21 u22 u23 u24 u25 u26 u27 u28 u29 u30 u31 u32 u33 u34 u35 u36 u37 u38 u39 u40 u41 u42 u43 u44 u45 u46 u47 u48 u49 u50 u51 u52 u53 u54 u55 u56 u57 u58 u59 u60 u61 u62 u63 u64 u65 u66 u67 u68 u69 u70 u71 u72 u73 u74 u75 u76 u77 u78 u79 u80 u81 u82 u83 u84 u85 u86 u87 u88 u89 u90 u91 u92 u93 u94 u95 u96 u97 u98 u99 u100 u101 u102 u103 u104 u105 u106 u107 u108 u109 u110 u111 u112 u113 u114 u115 u116 u117 u118 u119 u120 u121 u122 u123 u124 u125 u126 u127 u128 u129 u130 u131 u132 u133 : Value) (h : Vi x we LV0 NV0 LF [] LV NV met nxt k bits f st w)
    (hK : ∀ (u1 u3 u4 u5 u8 u9 u10 u11 u12 u13 u14 u15 u16 u17 u18 u19 u20 u21 u22 u23 u24 u25 u26 u27 u28 u29 u30 u31 u32 u33 u34 u35 u36 u37 u38 u39 u40 u41 u42 u43 u44 u45 u46 u47 u48 u49 u50 u51 u52 u53 u54 u55 u56 u57 u58 u59 u60 u61 u62 u63 u64 u65 u66 u67 u68 u69 u70 u71 u72 u73 u74 u75 u76 u77 u78 u79 u80 u81 u82 u83 u84 u85 u86 u87 u88 u89 u90 u91 u92 u93 u94 u95 u96 u97 u98 u99 u100 u101 u102 u103 u104 u105 u106 u107 u108 u109 u110 u111 u112 u113 u114 u115 u116 u117 u118 u119 u120 u121 u122 u123 u124 u125 u126 u127 u128 u129 u130 u131 u132 u133 : Value), Q (.exit 0) ⟨#[(.pointer (some ⟨x.rb, 0, none⟩)), u1, (.func (.func 38) #[.pointer (some ⟨x.rb, 0, none⟩)] #[]), u3, u4, u5, (.bool false), LF, u8, u9, u10, u11, u12, u13, u14, u15, u16, u17, u18, u19, u20, u21, u22, u23, u24, u25, u26, u27, u28, u29, u30, u31, u32, u33, u34, u35, u36, u37, u38, u39, u40, u41, u42, u43, u44, u45, u46, u47, u48, u49, u50, u51, u52, u53, u54, u55, u56, u57, u58, u59, u60, u61, u62, u63, u64, u65, u66, u67, u68, u69, u70, u71, u72, u73, u74, u75, u76, u77, u78, u79, u80, u81, u82, u83, u84, u85, u86, u87, u88, u89, u90, u91, u92, u93, u94, u95, u96, u97, u98, u99, u100, u101, u102, u103, u104, u105, u106, u107, u108, u109, u110, u111, u112, u113, u114, u115, u116, u117, u118, u119, u120, u121, u122, u123, u124, u125, u126, u127, u128, u129, u130, u131, u132, u133], []⟩ w)
    : Code.wp Try.prog visitBody (Exit.then K Q) ⟨#[(.pointer (some ⟨x.rb, 0, none⟩)), u1, (.func (.func 38) #[.pointer (some ⟨x.rb, 0, none⟩)] #[]), u3, u4, u5, (.bool false), LF, u8, u9, u10, u11, u12, u13, u14, u15, u16, u17, u18, u19, u20, u21, u22, u23, u24, u25, u26, u27, u28, u29, u30, u31, u32, u33, u34, u35, u36, u37, u38, u39, u40, u41, u42, u43, u44, u45, u46, u47, u48, u49, u50, u51, u52, u53, u54, u55, u56, u57, u58, u59, u60, u61, u62, u63, u64, u65, u66, u67, u68, u69, u70, u71, u72, u73, u74, u75, u76, u77, u78, u79, u80, u81, u82, u83, u84, u85, u86, u87, u88, u89, u90, u91, u92, u93, u94, u95, u96, u97, u98, u99, u100, u101, u102, u103, u104, u105, u106, u107, u108, u109, u110, u111, u112, u113, u114, u115, u116, u117, u118, u119, u120, u121, u122, u123, u124, u125, u126, u127, u128, u129, u130, u131, u132, u133], []⟩ w := by
  obtain ⟨A, c, rfl⟩ := own_shape h.lf
  have HK := Lib.hid hK
  clear hK h
  conv => arg 2; whnf
  go_wp2_with fail
  apply HK.out


set_option maxRecDepth 1000000 in
set_option maxHeartbeats 4000000 in
theorem vround_old {x : Px} {we : World} {LV0 NV0 LF LV NV : Value} {l : List TV} {v : TV} {met : List Nat} {nxt : List TV} {k : Nat} {bits st : Int} {f : Option Fd} {w : World} {K : Act → World → Prop} {Q : Exit → Act → World → Prop}  (u1 u3 u4 u5 u8 u9 u10 u11 u12 u13 u14 u15 u16 u17 u18 u19 u20 u21 u22 u23 u24 u25 u26 u27 u28 u29 u30 u31 u32 u33 u34 u35 u36 u37 u38 u39 u40 u41 u42 u43 u44 u45 u46 u47 u48 u49 u50 u51 u52 u53 u54 u55 u56 u57 u58 u59 u60 u61 u62 u63 u64 u65 u66 u67 u68 u69 u70 u71 u72 u73 u74 u75 u76 u77 u78 u79 u80 u81 u82 u83 u84 u85 u86 u87 u88 u89 u90 u91 u92 u93 u94 u95 u96 u97 u98 u99 u100 u101 u102 u103 u104 u105 u106 u107 u108 u109 u110 u111 u112 u113 u114 u115 u116 u117 u118 u119 u120 u121 u122 u123 u124 u125 u126 u127 u128 u129 u130 u131 u132 u133 : Value) (h : Vi x we LV0 NV0 LF (v :: l) LV NV met nxt k bits f st w)
    (hn : l.length ≤ 1000000) (hvn : x.n ≤ 20000) (hm : v.i ∈ met)
    (hK : ∀ (u1 u3 u4 u5 u8 u9 u10 u11 u12 u13 u14 u15 u16 u17 u18 u19 u20 u21 u22 u23 u24 u25 u26 u27 u28 u29 u30 u31 u32 u33 u34 u35 u36 u37 u38 u39 u40 u41 u42 u43 u44 u45 u46 u47 u48 u49 u50 u51 u52 u53 u54 u55 u56 u57 u58 u59 u60 u61 u62 u63 u64 u65 u66 u67 u68 u69 u70 u71 u72 u73 u74 u75 u76 u77 u78 u79 u80 u81 u82 u83 u84 u85 u86 u87 u88 u89 u90 u91 u92 u93 u94 u95 u96 u97 u98 u99 u100 u101 u102 u103 u104 u105 u106 u107 u108 u109 u110 u111 u112 u113 u114 u115 u116 u117 u118 u119 u120 u121 u122 u123 u124 u125 u126 u127 u128 u129 u130 u131 u132 u133 : Value) (LF' : Value) (w' : World), Vi x we LV0 NV0 LF' l LV NV met nxt k bits f st w' → K ⟨#[(.pointer (some ⟨x.rb, 0, none⟩)), u1, (.func (.func 38) #[.pointer (some ⟨x.rb, 0, none⟩)] #[]), u3, u4, u5, (.bool false), LF', u8, u9, u10, u11, u12, u13, u14, u15, u16, u17, u18, u19, u20, u21, u22, u23, u24, u25, u26, u27, u28, u29, u30, u31, u32, u33, u34, u35, u36, u37, u38, u39, u40, u41, u42, u43, u44, u45, u46, u47, u48, u49, u50, u51, u52, u53, u54, u55, u56, u57, u58, u59, u60, u61, u62, u63, u64, u65, u66, u67, u68, u69, u70, u71, u72, u73, u74, u75, u76, u77, u78, u79, u80, u81, u82, u83, u84, u85, u86, u87, u88, u89, u90, u91, u92, u93, u94, u95, u96, u97, u98, u99, u100, u101, u102, u103, u104, u105, u106, u107, u108, u109, u110, u111, u112, u113, u114, u115, u116, u117, u118, u119, u120, u121, u122, u123, u124, u125, u126, u127, u128, u129, u130, u131, u132, u133], []⟩ w')
    : Code.wp Try.prog visitBody (Exit.then K Q) ⟨#[(.pointer (some ⟨x.rb, 0, none⟩)), u1, (.func (.func 38) #[.pointer (some ⟨x.rb, 0, none⟩)] #[]), u3, u4, u5, (.bool false), LF, u8, u9, u10, u11, u12, u13, u14, u15, u16, u17, u18, u19, u20, u21, u22, u23, u24, u25, u26, u27, u28, u29, u30, u31, u32, u33, u34, u35, u36, u37, u38, u39, u40, u41, u42, u43, u44, u45, u46, u47, u48, u49, u50, u51, u52, u53, u54, u55, u56, u57, u58, u59, u60, u61, u62, u63, u64, u65, u66, u67, u68, u69, u70, u71, u72, u73, u74, u75, u76, u77, u78, u79, u80, u81, u82, u83, u84, u85, u86, u87, u88, u89, u90, u91, u92, u93, u94, u95, u96, u97, u98, u99, u100, u101, u102, u103, u104, u105, u106, u107, u108, u109, u110, u111, u112, u113, u114, u115, u116, u117, u118, u119, u120, u121, u122, u123, u124, u125, u126, u127, u128, u129, u130, u131, u132, u133], []⟩ w := by
  obtain ⟨g, c, rfl, t0, t1, hnc, hg, h1⟩ := h.top
  have H1 := Lib.hid h1
  have HK := Lib.hid hK
  have hv := h.ok v List.mem_cons_self
  have HV := Lib.hid hv
  have HVN := Lib.hid hvn
  have HMM := Lib.hid hm
  clear h h1 hK hv hvn hm
  conv => arg 2; whnf
  go_wp2_with fail
  have hb1 := H1.out.alloc (.cells #[.int .i64 (v.i : Int), .slice (some ⟨v.g, 0, none⟩) x.cl x.cl] 95)
  have hx1 := Blk.new w 95 [.int .i64 (v.i : Int), .slice (some ⟨v.g, 0, none⟩) x.cl x.cl]
  have hv1 : Tok x LV.ownBlock (w.alloc (.cells #[.int .i64 (v.i : Int), .slice (some ⟨v.g, 0, none⟩) x.cl x.cl] 95)) v := HV.out.kept (Kept.alloc (L := []) _) (by simp)
  have hT0 : ∀ q, (Value.slice (some ⟨g, 0, none⟩) l.length c).ownBlock = some q → q < w.heap.size := fun q hq => by simp only [Value.ownBlock, Option.some.injEq] at hq; omega
  rw [show (Obj.cells ([Value.int .i64 (v.i : Int), .slice (some ⟨v.g, 0, none⟩) x.cl x.cl]).toArray 95) = .cells #[.int .i64 (v.i : Int), .slice (some ⟨v.g, 0, none⟩) x.cl x.cl] 95 from rfl] at hx1
  obtain ⟨T0, hT⟩ : ∃ T0, T0 = w.heap.size := ⟨_, rfl⟩
  rw [← hT] at hx1 hT0 ⊢
  clear t0 t1 hg hT
  generalize (w.alloc (.cells #[.int .i64 (v.i : Int), .slice (some ⟨v.g, 0, none⟩) x.cl x.cl] 95)) = w1 at *
  have q1 : w1.cell? ⟨x.rb, 6, none⟩ = some (.pointer (some ⟨x.sb, 0, none⟩)) := hb1.pk.run.cell 6
  have q2 : w1.cell? ⟨T0, 0, none⟩ = some (.int .i64 (v.i : Int)) := hx1.cell 0
  have q3 := hb1.pk.run.lt
  have q4 := hx1.lt
  have HADD := Lib.hid (setAdd_old x.B x.sb x.ab x.n v.i LV met w1.drew (hb1.pk.met.drewN 1) hv1.1 (by have := HVN.out; omega) HMM.out)
  have HB1 := Lib.hid hb1
  have HX1 := Lib.hid hx1
  have HV1 := Lib.hid hv1
  have HT0 := Lib.hid hT0
  have q5 : w1.drew.cell? ⟨x.rb, 6, none⟩ = some (.pointer (some ⟨x.sb, 0, none⟩)) := q1
  have q6 : w1.drew.cell? ⟨T0, 0, none⟩ = some (.int .i64 (v.i : Int)) := q2
  clear hb1 hx1 hv1 hT0
  refine wp_region_still_tail 6 (by kernel_rfl) (by kernel_rfl) ?_
  simp only [List.take_succ_cons, List.take_zero, List.drop_succ_cons, List.drop_zero]
  change wpStill _ _ w1.drew _ _ _
  repeat still_step
  refine wpStill_nil ?_
  change wpList _ _ _ _ _ w1.drew
  go_wp2_with (go_at_call 39; refine HADD.out.mono ?_; rintro e w2 ⟨rfl, rfl⟩; simp only [])
  apply HK.out
  exact HB1.out.drew

end Go.Proofs.Yteiggbbljgkloaa
