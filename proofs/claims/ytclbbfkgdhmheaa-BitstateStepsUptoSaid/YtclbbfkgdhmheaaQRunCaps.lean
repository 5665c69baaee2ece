/- bitstate.Run: the loop that sets all captures to -1. -/
import Derived.Test.YtclbbfkgdhmheaaQRunRel
import Derived.Deep.RegionWith
import Derived.StillTailTactics
namespace Go.Proofs.Ytclbbfkgdhmheaa
open Go.RowKit Go.Proofs.Ytclbbfkgdhmheaa.Mach

noncomputable def capsBody : Code := (((Try.f8.body.map loopsOf).getD [])[1]?).getD .skip
set_option maxRecDepth 1000000 in
set_option maxHeartbeats 4000000 in
theorem caps_end {w0 : World} {b : Blocks} {A At : Option Addr} {n c nt ct k0 pl wl cl : Nat} {start caps : Int} {V : Value} {ws : List Nat} {w : World} {anch : Bool} {v0 vb : Value} {s : MS} {steps : Nat} (u5 u6 u7 u9 u16 u17 u18 u19 u20 u21 u22 u23 u24 u25 u26 u27 u28 u29 u30 u31 u32 u33 u34 u35 u36 u37 u38 u39 u40 u41 u42 u43 u44 u45 u46 u47 u48 u49 u50 u51 u52 u53 u54 u55 u56 u57 u58 u59 u60 u61 u62 u63 u64 u65 u66 u67 u68 u69 u70 u71 u74 u75 u76 u77 u78 u79 u80 u81 u82 u83 u84 u85 u86 u87 u88 u89 u90 u91 u92 u93 u94 u95 u96 u97 u98 u99 u100 u101 u102 u103 u104 u105 u106 u107 u108 u109 u110 u111 u112 u113 u114 u115 u116 u117 u118 u119 u120 u121 u122 u123 u124 u125 u126 u127 u128 u129 u130 u131 u132 u133 u134 u135 u136 u137 u138 u139 u140 u141 u142 u143 u144 u145 u146 u147 u148 u149 u150 u151 u152 u153 u154 u155 u156 u157 u158 u159 u160 u161 u162 u163 u164 u165 u166 u167 u168 u169 u170 u171 u172 u173 u174 u175 u176 u177 u178 u179 u180 u181 u182 u183 u184 u185 u186 u187 u188 u189 u190 u191 u192 u193 u194 u195 u196 u197 u198 u199 u200 u201 u202 u203 u204 u205 u206 u207 u208 u209 u210 u211 u212 u213 u214 u215 u216 u217 u218 u219 u220 u221 u222 u223 u224 u225 u226 u227 u228 u229 u230 u231 u232 u233 u234 u235 : Value) {K : Act → World → Prop} {Q : Exit → Act → World → Prop}
    (h : ∀ (u5 u6 u7 u9 u16 u17 u18 u19 u20 u21 u22 u23 u24 u25 u26 u27 u28 u29 u30 u31 u32 u33 u34 u35 u36 u37 u38 u39 u40 u41 u42 u43 u44 u45 u46 u47 u48 u49 u50 u51 u52 u53 u54 u55 u56 u57 u58 u59 u60 u61 u62 u63 u64 u65 u66 u67 u68 u69 u70 u71 u74 u75 u76 u77 u78 u79 u80 u81 u82 u83 u84 u85 u86 u87 u88 u89 u90 u91 u92 u93 u94 u95 u96 u97 u98 u99 u100 u101 u102 u103 u104 u105 u106 u107 u108 u109 u110 u111 u112 u113 u114 u115 u116 u117 u118 u119 u120 u121 u122 u123 u124 u125 u126 u127 u128 u129 u130 u131 u132 u133 u134 u135 u136 u137 u138 u139 u140 u141 u142 u143 u144 u145 u146 u147 u148 u149 u150 u151 u152 u153 u154 u155 u156 u157 u158 u159 u160 u161 u162 u163 u164 u165 u166 u167 u168 u169 u170 u171 u172 u173 u174 u175 u176 u177 u178 u179 u180 u181 u182 u183 u184 u185 u186 u187 u188 u189 u190 u191 u192 u193 u194 u195 u196 u197 u198 u199 u200 u201 u202 u203 u204 u205 u206 u207 u208 u209 u210 u211 u212 u213 u214 u215 u216 u217 u218 u219 u220 u221 u222 u223 u224 u225 u226 u227 u228 u229 u230 u231 u232 u233 u234 u235 : Value), Q (.exit 3) ⟨#[v0, (.slice At nt ct), (.int .i64 (k0 : Int)), (.bool anch), (.pointer (some ⟨b.P, 0, none⟩)), u5, u6, u7, (.pointer (some ⟨b.R, 0, none⟩)), u9, (.int .i64 (pl : Int)), (.slice (some ⟨b.M, 0, none⟩) wl wl), (.slice (some ⟨b.C, 0, none⟩) cl cl), (.int .i64 (steps : Int)), (.pointer (some ⟨b.S, 0, none⟩)), vb, u16, u17, u18, u19, u20, u21, u22, u23, u24, u25, u26, u27, u28, u29, u30, u31, u32, u33, u34, u35, u36, u37, u38, u39, u40, u41, u42, u43, u44, u45, u46, u47, u48, u49, u50, u51, u52, u53, u54, u55, u56, u57, u58, u59, u60, u61, u62, u63, u64, u65, u66, u67, u68, u69, u70, u71, (.int .i64 (cl : Int)), (.int .i64 (cl : Int)), u74, u75, u76, u77, u78, u79, u80, u81, u82, u83, u84, u85, u86, u87, u88, u89, u90, u91, u92, u93, u94, u95, u96, u97, u98, u99, u100, u101, u102, u103, u104, u105, u106, u107, u108, u109, u110, u111, u112, u113, u114, u115, u116, u117, u118, u119, u120, u121, u122, u123, u124, u125, u126, u127, u128, u129, u130, u131, u132, u133, u134, u135, u136, u137, u138, u139, u140, u141, u142, u143, u144, u145, u146, u147, u148, u149, u150, u151, u152, u153, u154, u155, u156, u157, u158, u159, u160, u161, u162, u163, u164, u165, u166, u167, u168, u169, u170, u171, u172, u173, u174, u175, u176, u177, u178, u179, u180, u181, u182, u183, u184, u185, u186, u187, u188, u189, u190, u191, u192, u193, u194, u195, u196, u197, u198, u199, u200, u201, u202, u203, u204, u205, u206, u207, u208, u209, u210, u211, u212, u213, u214, u215, u216, u217, u218, u219, u220, u221, u222, u223, u224, u225, u226, u227, u228, u229, u230, u231, u232, u233, u234, u235], []⟩ w)
    : Code.wp Try.prog capsBody (Exit.then K Q) ⟨#[v0, (.slice At nt ct), (.int .i64 (k0 : Int)), (.bool anch), (.pointer (some ⟨b.P, 0, none⟩)), u5, u6, u7, (.pointer (some ⟨b.R, 0, none⟩)), u9, (.int .i64 (pl : Int)), (.slice (some ⟨b.M, 0, none⟩) wl wl), (.slice (some ⟨b.C, 0, none⟩) cl cl), (.int .i64 (steps : Int)), (.pointer (some ⟨b.S, 0, none⟩)), vb, u16, u17, u18, u19, u20, u21, u22, u23, u24, u25, u26, u27, u28, u29, u30, u31, u32, u33, u34, u35, u36, u37, u38, u39, u40, u41, u42, u43, u44, u45, u46, u47, u48, u49, u50, u51, u52, u53, u54, u55, u56, u57, u58, u59, u60, u61, u62, u63, u64, u65, u66, u67, u68, u69, u70, u71, (.int .i64 (cl : Int)), (.int .i64 (cl : Int)), u74, u75, u76, u77, u78, u79, u80, u81, u82, u83, u84, u85, u86, u87, u88, u89, u90, u91, u92, u93, u94, u95, u96, u97, u98, u99, u100, u101, u102, u103, u104, u105, u106, u107, u108, u109, u110, u111, u112, u113, u114, u115, u116, u117, u118, u119, u120, u121, u122, u123, u124, u125, u126, u127, u128, u129, u130, u131, u132, u133, u134, u135, u136, u137, u138, u139, u140, u141, u142, u143, u144, u145, u146, u147, u148, u149, u150, u151, u152, u153, u154, u155, u156, u157, u158, u159, u160, u161, u162, u163, u164, u165, u166, u167, u168, u169, u170, u171, u172, u173, u174, u175, u176, u177, u178, u179, u180, u181, u182, u183, u184, u185, u186, u187, u188, u189, u190, u191, u192, u193, u194, u195, u196, u197, u198, u199, u200, u201, u202, u203, u204, u205, u206, u207, u208, u209, u210, u211, u212, u213, u214, u215, u216, u217, u218, u219, u220, u221, u222, u223, u224, u225, u226, u227, u228, u229, u230, u231, u232, u233, u234, u235], []⟩ w := by
  have H := Lib.hid h
  clear h
  conv => arg 2; whnf
  go_wp2_with fail
  apply H.out

set_option maxRecDepth 1000000 in
set_option maxHeartbeats 4000000 in
theorem caps_go {w0 : World} {b : Blocks} {A At : Option Addr} {n c nt ct k0 pl wl cl : Nat} {start caps : Int} {V : Value} {ws : List Nat} {w : World} {anch : Bool} {v0 vb : Value} {s : MS} {steps i : Nat} (u5 u6 u7 u9 u16 u17 u18 u19 u20 u21 u22 u23 u24 u25 u26 u27 u28 u29 u30 u31 u32 u33 u34 u35 u36 u37 u38 u39 u40 u41 u42 u43 u44 u45 u46 u47 u48 u49 u50 u51 u52 u53 u54 u55 u56 u57 u58 u59 u60 u61 u62 u63 u64 u65 u66 u67 u68 u69 u70 u71 u74 u75 u76 u77 u78 u79 u80 u81 u82 u83 u84 u85 u86 u87 u88 u89 u90 u91 u92 u93 u94 u95 u96 u97 u98 u99 u100 u101 u102 u103 u104 u105 u106 u107 u108 u109 u110 u111 u112 u113 u114 u115 u116 u117 u118 u119 u120 u121 u122 u123 u124 u125 u126 u127 u128 u129 u130 u131 u132 u133 u134 u135 u136 u137 u138 u139 u140 u141 u142 u143 u144 u145 u146 u147 u148 u149 u150 u151 u152 u153 u154 u155 u156 u157 u158 u159 u160 u161 u162 u163 u164 u165 u166 u167 u168 u169 u170 u171 u172 u173 u174 u175 u176 u177 u178 u179 u180 u181 u182 u183 u184 u185 u186 u187 u188 u189 u190 u191 u192 u193 u194 u195 u196 u197 u198 u199 u200 u201 u202 u203 u204 u205 u206 u207 u208 u209 u210 u211 u212 u213 u214 u215 u216 u217 u218 u219 u220 u221 u222 u223 u224 u225 u226 u227 u228 u229 u230 u231 u232 u233 u234 u235 : Value) {K : Act → World → Prop} {Q : Exit → Act → World → Prop}
    (h : Rn w0 b A n c start caps V ws s w) (hi : i < cl) (hcl : cl = s.caps.length) (hcap : cl ≤ 1002)
    (hK : ∀ (u5 u6 u7 u9 u16 u17 u18 u19 u20 u21 u22 u23 u24 u25 u26 u27 u28 u29 u30 u31 u32 u33 u34 u35 u36 u37 u38 u39 u40 u41 u42 u43 u44 u45 u46 u47 u48 u49 u50 u51 u52 u53 u54 u55 u56 u57 u58 u59 u60 u61 u62 u63 u64 u65 u66 u67 u68 u69 u70 u71 u74 u75 u76 u77 u78 u79 u80 u81 u82 u83 u84 u85 u86 u87 u88 u89 u90 u91 u92 u93 u94 u95 u96 u97 u98 u99 u100 u101 u102 u103 u104 u105 u106 u107 u108 u109 u110 u111 u112 u113 u114 u115 u116 u117 u118 u119 u120 u121 u122 u123 u124 u125 u126 u127 u128 u129 u130 u131 u132 u133 u134 u135 u136 u137 u138 u139 u140 u141 u142 u143 u144 u145 u146 u147 u148 u149 u150 u151 u152 u153 u154 u155 u156 u157 u158 u159 u160 u161 u162 u163 u164 u165 u166 u167 u168 u169 u170 u171 u172 u173 u174 u175 u176 u177 u178 u179 u180 u181 u182 u183 u184 u185 u186 u187 u188 u189 u190 u191 u192 u193 u194 u195 u196 u197 u198 u199 u200 u201 u202 u203 u204 u205 u206 u207 u208 u209 u210 u211 u212 u213 u214 u215 u216 u217 u218 u219 u220 u221 u222 u223 u224 u225 u226 u227 u228 u229 u230 u231 u232 u233 u234 u235 : Value) (w' : World), Rn w0 b A n c start caps V ws { s with caps := s.caps.set i (-1) } w' → K ⟨#[v0, (.slice At nt ct), (.int .i64 (k0 : Int)), (.bool anch), (.pointer (some ⟨b.P, 0, none⟩)), u5, u6, u7, (.pointer (some ⟨b.R, 0, none⟩)), u9, (.int .i64 (pl : Int)), (.slice (some ⟨b.M, 0, none⟩) wl wl), (.slice (some ⟨b.C, 0, none⟩) cl cl), (.int .i64 (steps : Int)), (.pointer (some ⟨b.S, 0, none⟩)), vb, u16, u17, u18, u19, u20, u21, u22, u23, u24, u25, u26, u27, u28, u29, u30, u31, u32, u33, u34, u35, u36, u37, u38, u39, u40, u41, u42, u43, u44, u45, u46, u47, u48, u49, u50, u51, u52, u53, u54, u55, u56, u57, u58, u59, u60, u61, u62, u63, u64, u65, u66, u67, u68, u69, u70, u71, (.int .i64 (cl : Int)), (.int .i64 ((i : Int) + 1)), u74, u75, u76, u77, u78, u79, u80, u81, u82, u83, u84, u85, u86, u87, u88, u89, u90, u91, u92, u93, u94, u95, u96, u97, u98, u99, u100, u101, u102, u103, u104, u105, u106, u107, u108, u109, u110, u111, u112, u113, u114, u115, u116, u117, u118, u119, u120, u121, u122, u123, u124, u125, u126, u127, u128, u129, u130, u131, u132, u133, u134, u135, u136, u137, u138, u139, u140, u141, u142, u143, u144, u145, u146, u147, u148, u149, u150, u151, u152, u153, u154, u155, u156, u157, u158, u159, u160, u161, u162, u163, u164, u165, u166, u167, u168, u169, u170, u171, u172, u173, u174, u175, u176, u177, u178, u179, u180, u181, u182, u183, u184, u185, u186, u187, u188, u189, u190, u191, u192, u193, u194, u195, u196, u197, u198, u199, u200, u201, u202, u203, u204, u205, u206, u207, u208, u209, u210, u211, u212, u213, u214, u215, u216, u217, u218, u219, u220, u221, u222, u223, u224, u225, u226, u227, u228, u229, u230, u231, u232, u233, u234, u235], []⟩ w')
    : Code.wp Try.prog capsBody (Exit.then K Q) ⟨#[v0, (.slice At nt ct), (.int .i64 (k0 : Int)), (.bool anch), (.pointer (some ⟨b.P, 0, none⟩)), u5, u6, u7, (.pointer (some ⟨b.R, 0, none⟩)), u9, (.int .i64 (pl : Int)), (.slice (some ⟨b.M, 0, none⟩) wl wl), (.slice (some ⟨b.C, 0, none⟩) cl cl), (.int .i64 (steps : Int)), (.pointer (some ⟨b.S, 0, none⟩)), vb, u16, u17, u18, u19, u20, u21, u22, u23, u24, u25, u26, u27, u28, u29, u30, u31, u32, u33, u34, u35, u36, u37, u38, u39, u40, u41, u42, u43, u44, u45, u46, u47, u48, u49, u50, u51, u52, u53, u54, u55, u56, u57, u58, u59, u60, u61, u62, u63, u64, u65, u66, u67, u68, u69, u70, u71, (.int .i64 (cl : Int)), (.int .i64 (i : Int)), u74, u75, u76, u77, u78, u79, u80, u81, u82, u83, u84, u85, u86, u87, u88, u89, u90, u91, u92, u93, u94, u95, u96, u97, u98, u99, u100, u101, u102, u103, u104, u105, u106, u107, u108, u109, u110, u111, u112, u113, u114, u115, u116, u117, u118, u119, u120, u121, u122, u123, u124, u125, u126, u127, u128, u129, u130, u131, u132, u133, u134, u135, u136, u137, u138, u139, u140, u141, u142, u143, u144, u145, u146, u147, u148, u149, u150, u151, u152, u153, u154, u155, u156, u157, u158, u159, u160, u161, u162, u163, u164, u165, u166, u167, u168, u169, u170, u171, u172, u173, u174, u175, u176, u177, u178, u179, u180, u181, u182, u183, u184, u185, u186, u187, u188, u189, u190, u191, u192, u193, u194, u195, u196, u197, u198, u199, u200, u201, u202, u203, u204, u205, u206, u207, u208, u209, u210, u211, u212, u213, u214, u215, u216, u217, u218, u219, u220, u221, u222, u223, u224, u225, u226, u227, u228, u229, u230, u231, u232, u233, u234, u235], []⟩ w := by
  have H := Lib.hid h
  have HK := Lib.hid hK
  obtain ⟨z, hz⟩ : ∃ z, (s.caps.map (Value.int .i64))[i]? = some z := ⟨_, List.getElem?_eq_getElem (by simp; omega)⟩
  have q1 : w.cell? ⟨b.C, i, none⟩ = some z := (h.capt.cell i).trans hz
  have q2 : w.frozen? ⟨b.C, i, none⟩ = false := h.capt.frozen i
  have q3 : b.C < w.heap.size := h.capt.lt
  have hil : (i : Int) < (cl : Int) := by omega
  clear h hK hz hcl
  conv => arg 2; whnf
  go_wp2_with fail
  apply HK.out
  exact H.out.captured i (-1)

theorem caps_set (l : List Int) (i : Nat) (h : i < l.length) : (List.replicate i (-1) ++ l.drop i).set i (-1) = List.replicate (i + 1) (-1) ++ l.drop (i + 1) := by
  rw [List.set_append_right _ _ (by simp), List.length_replicate, Nat.sub_self, List.drop_eq_getElem_cons h, List.set_cons_zero, List.replicate_succ', List.append_assoc]
  rfl

set_option maxRecDepth 1000000 in
def CI (w0 : World) (b : Blocks) (A At : Option Addr) (n c nt ct k0 pl wl cl : Nat) (start caps : Int) (V : Value) (ws : List Nat) (anch : Bool) (v0 vb : Value) (steps : Nat) (s : MS) (m : Nat) (a : Act) (w : World) : Prop :=
  ∃ u5 : Value, ∃ u6 : Value, ∃ u7 : Value, ∃ u9 : Value, ∃ u16 : Value, ∃ u17 : Value, ∃ u18 : Value, ∃ u19 : Value, ∃ u20 : Value, ∃ u21 : Value, ∃ u22 : Value, ∃ u23 : Value, ∃ u24 : Value, ∃ u25 : Value, ∃ u26 : Value, ∃ u27 : Value, ∃ u28 : Value, ∃ u29 : Value, ∃ u30 : Value, ∃ u31 : Value, ∃ u32 : Value, ∃ u33 : Value, ∃ u34 : Value, ∃ u35 : Value, ∃ u36 : Value, ∃ u37 : Value, ∃ u38 : Value, ∃ u39 : Value, ∃ u40 : Value, ∃ u41 : Value, ∃ u42 : Value, ∃ u43 : Value, ∃ u44 : Value, ∃ u45 : Value, ∃ u46 : Value, ∃ u47 : Value, ∃ u48 : Value, ∃ u49 : Value, ∃ u50 : Value, ∃ u51 : Value, ∃ u52 : Value, ∃ u53 : Value, ∃ u54 : Value, ∃ u55 : Value, ∃ u56 : Value, ∃ u57 : Value, ∃ u58 : Value, ∃ u59 : Value, ∃ u60 : Value, ∃ u61 : Value, ∃ u62 : Value, ∃ u63 : Value, ∃ u64 : Value, ∃ u65 : Value, ∃ u66 : Value, ∃ u67 : Value, ∃ u68 : Value, ∃ u69 : Value, ∃ u70 : Value, ∃ u71 : Value, ∃ u74 : Value, ∃ u75 : Value, ∃ u76 : Value, ∃ u77 : Value, ∃ u78 : Value, ∃ u79 : Value, ∃ u80 : Value, ∃ u81 : Value, ∃ u82 : Value, ∃ u83 : Value, ∃ u84 : Value, ∃ u85 : Value, ∃ u86 : Value, ∃ u87 : Value, ∃ u88 : Value, ∃ u89 : Value, ∃ u90 : Value, ∃ u91 : Value, ∃ u92 : Value, ∃ u93 : Value, ∃ u94 : Value, ∃ u95 : Value, ∃ u96 : Value, ∃ u97 : Value, ∃ u98 : Value, ∃ u99 : Value, ∃ u100 : Value, ∃ u101 : Value, ∃ u102 : Value, ∃ u103 : Value, ∃ u104 : Value, ∃ u105 : Value, ∃ u106 : Value, ∃ u107 : Value, ∃ u108 : Value, ∃ u109 : Value, ∃ u110 : Value, ∃ u111 : Value, ∃ u112 : Value, ∃ u113 : Value, ∃ u114 : Value, ∃ u115 : Value, ∃ u116 : Value, ∃ u117 : Value, ∃ u118 : Value, ∃ u119 : Value, ∃ u120 : Value, ∃ u121 : Value, ∃ u122 : Value, ∃ u123 : Value, ∃ u124 : Value, ∃ u125 : Value, ∃ u126 : Value, ∃ u127 : Value, ∃ u128 : Value, ∃ u129 : Value, ∃ u130 : Value, ∃ u131 : Value, ∃ u132 : Value, ∃ u133 : Value, ∃ u134 : Value, ∃ u135 : Value, ∃ u136 : Value, ∃ u137 : Value, ∃ u138 : Value, ∃ u139 : Value, ∃ u140 : Value, ∃ u141 : Value, ∃ u142 : Value, ∃ u143 : Value, ∃ u144 : Value, ∃ u145 : Value, ∃ u146 : Value, ∃ u147 : Value, ∃ u148 : Value, ∃ u149 : Value, ∃ u150 : Value, ∃ u151 : Value, ∃ u152 : Value, ∃ u153 : Value, ∃ u154 : Value, ∃ u155 : Value, ∃ u156 : Value, ∃ u157 : Value, ∃ u158 : Value, ∃ u159 : Value, ∃ u160 : Value, ∃ u161 : Value, ∃ u162 : Value, ∃ u163 : Value, ∃ u164 : Value, ∃ u165 : Value, ∃ u166 : Value, ∃ u167 : Value, ∃ u168 : Value, ∃ u169 : Value, ∃ u170 : Value, ∃ u171 : Value, ∃ u172 : Value, ∃ u173 : Value, ∃ u174 : Value, ∃ u175 : Value, ∃ u176 : Value, ∃ u177 : Value, ∃ u178 : Value, ∃ u179 : Value, ∃ u180 : Value, ∃ u181 : Value, ∃ u182 : Value, ∃ u183 : Value, ∃ u184 : Value, ∃ u185 : Value, ∃ u186 : Value, ∃ u187 : Value, ∃ u188 : Value, ∃ u189 : Value, ∃ u190 : Value, ∃ u191 : Value, ∃ u192 : Value, ∃ u193 : Value, ∃ u194 : Value, ∃ u195 : Value, ∃ u196 : Value, ∃ u197 : Value, ∃ u198 : Value, ∃ u199 : Value, ∃ u200 : Value, ∃ u201 : Value, ∃ u202 : Value, ∃ u203 : Value, ∃ u204 : Value, ∃ u205 : Value, ∃ u206 : Value, ∃ u207 : Value, ∃ u208 : Value, ∃ u209 : Value, ∃ u210 : Value, ∃ u211 : Value, ∃ u212 : Value, ∃ u213 : Value, ∃ u214 : Value, ∃ u215 : Value, ∃ u216 : Value, ∃ u217 : Value, ∃ u218 : Value, ∃ u219 : Value, ∃ u220 : Value, ∃ u221 : Value, ∃ u222 : Value, ∃ u223 : Value, ∃ u224 : Value, ∃ u225 : Value, ∃ u226 : Value, ∃ u227 : Value, ∃ u228 : Value, ∃ u229 : Value, ∃ u230 : Value, ∃ u231 : Value, ∃ u232 : Value, ∃ u233 : Value, ∃ u234 : Value, ∃ u235 : Value, ∃ (sv : Value) (i : Nat), (sv = .int .i64 (i : Int) ∧ i ≤ cl ∧ cl - i = m ∧ Rn w0 b A n c start caps V ws { s with caps := List.replicate i (-1) ++ s.caps.drop i } w) ∧ a = ⟨#[v0, (.slice At nt ct), (.int .i64 (k0 : Int)), (.bool anch), (.pointer (some ⟨b.P, 0, none⟩)), u5, u6, u7, (.pointer (some ⟨b.R, 0, none⟩)), u9, (.int .i64 (pl : Int)), (.slice (some ⟨b.M, 0, none⟩) wl wl), (.slice (some ⟨b.C, 0, none⟩) cl cl), (.int .i64 (steps : Int)), (.pointer (some ⟨b.S, 0, none⟩)), vb, u16, u17, u18, u19, u20, u21, u22, u23, u24, u25, u26, u27, u28, u29, u30, u31, u32, u33, u34, u35, u36, u37, u38, u39, u40, u41, u42, u43, u44, u45, u46, u47, u48, u49, u50, u51, u52, u53, u54, u55, u56, u57, u58, u59, u60, u61, u62, u63, u64, u65, u66, u67, u68, u69, u70, u71, (.int .i64 (cl : Int)), sv, u74, u75, u76, u77, u78, u79, u80, u81, u82, u83, u84, u85, u86, u87, u88, u89, u90, u91, u92, u93, u94, u95, u96, u97, u98, u99, u100, u101, u102, u103, u104, u105, u106, u107, u108, u109, u110, u111, u112, u113, u114, u115, u116, u117, u118, u119, u120, u121, u122, u123, u124, u125, u126, u127, u128, u129, u130, u131, u132, u133, u134, u135, u136, u137, u138, u139, u140, u141, u142, u143, u144, u145, u146, u147, u148, u149, u150, u151, u152, u153, u154, u155, u156, u157, u158, u159, u160, u161, u162, u163, u164, u165, u166, u167, u168, u169, u170, u171, u172, u173, u174, u175, u176, u177, u178, u179, u180, u181, u182, u183, u184, u185, u186, u187, u188, u189, u190, u191, u192, u193, u194, u195, u196, u197, u198, u199, u200, u201, u202, u203, u204, u205, u206, u207, u208, u209, u210, u211, u212, u213, u214, u215, u216, u217, u218, u219, u220, u221, u222, u223, u224, u225, u226, u227, u228, u229, u230, u231, u232, u233, u234, u235], []⟩

set_option maxRecDepth 1000000 in
set_option maxHeartbeats 4000000 in
/-- All captures become -1. -/
theorem caps_loop {w0 : World} {b : Blocks} {A At : Option Addr} {n c nt ct k0 pl wl cl : Nat} {start caps : Int} {V : Value} {ws : List Nat} {w : World} {anch : Bool} {v0 vb : Value} {s : MS} {steps : Nat} (u5 u6 u7 u9 u16 u17 u18 u19 u20 u21 u22 u23 u24 u25 u26 u27 u28 u29 u30 u31 u32 u33 u34 u35 u36 u37 u38 u39 u40 u41 u42 u43 u44 u45 u46 u47 u48 u49 u50 u51 u52 u53 u54 u55 u56 u57 u58 u59 u60 u61 u62 u63 u64 u65 u66 u67 u68 u69 u70 u71 u74 u75 u76 u77 u78 u79 u80 u81 u82 u83 u84 u85 u86 u87 u88 u89 u90 u91 u92 u93 u94 u95 u96 u97 u98 u99 u100 u101 u102 u103 u104 u105 u106 u107 u108 u109 u110 u111 u112 u113 u114 u115 u116 u117 u118 u119 u120 u121 u122 u123 u124 u125 u126 u127 u128 u129 u130 u131 u132 u133 u134 u135 u136 u137 u138 u139 u140 u141 u142 u143 u144 u145 u146 u147 u148 u149 u150 u151 u152 u153 u154 u155 u156 u157 u158 u159 u160 u161 u162 u163 u164 u165 u166 u167 u168 u169 u170 u171 u172 u173 u174 u175 u176 u177 u178 u179 u180 u181 u182 u183 u184 u185 u186 u187 u188 u189 u190 u191 u192 u193 u194 u195 u196 u197 u198 u199 u200 u201 u202 u203 u204 u205 u206 u207 u208 u209 u210 u211 u212 u213 u214 u215 u216 u217 u218 u219 u220 u221 u222 u223 u224 u225 u226 u227 u228 u229 u230 u231 u232 u233 u234 u235 : Value) {Q : Exit → Act → World → Prop}
    (h : Rn w0 b A n c start caps V ws s w) (hcl : cl = s.caps.length) (hcap : cl ≤ 1002)
    (hQ : ∀ (u5 u6 u7 u9 u16 u17 u18 u19 u20 u21 u22 u23 u24 u25 u26 u27 u28 u29 u30 u31 u32 u33 u34 u35 u36 u37 u38 u39 u40 u41 u42 u43 u44 u45 u46 u47 u48 u49 u50 u51 u52 u53 u54 u55 u56 u57 u58 u59 u60 u61 u62 u63 u64 u65 u66 u67 u68 u69 u70 u71 u74 u75 u76 u77 u78 u79 u80 u81 u82 u83 u84 u85 u86 u87 u88 u89 u90 u91 u92 u93 u94 u95 u96 u97 u98 u99 u100 u101 u102 u103 u104 u105 u106 u107 u108 u109 u110 u111 u112 u113 u114 u115 u116 u117 u118 u119 u120 u121 u122 u123 u124 u125 u126 u127 u128 u129 u130 u131 u132 u133 u134 u135 u136 u137 u138 u139 u140 u141 u142 u143 u144 u145 u146 u147 u148 u149 u150 u151 u152 u153 u154 u155 u156 u157 u158 u159 u160 u161 u162 u163 u164 u165 u166 u167 u168 u169 u170 u171 u172 u173 u174 u175 u176 u177 u178 u179 u180 u181 u182 u183 u184 u185 u186 u187 u188 u189 u190 u191 u192 u193 u194 u195 u196 u197 u198 u199 u200 u201 u202 u203 u204 u205 u206 u207 u208 u209 u210 u211 u212 u213 u214 u215 u216 u217 u218 u219 u220 u221 u222 u223 u224 u225 u226 u227 u228 u229 u230 u231 u232 u233 u234 u235 : Value) (w' : World), Rn w0 b A n c start caps V ws { s with caps := List.replicate cl (-1) } w' → Q (.exit 3) ⟨#[v0, (.slice At nt ct), (.int .i64 (k0 : Int)), (.bool anch), (.pointer (some ⟨b.P, 0, none⟩)), u5, u6, u7, (.pointer (some ⟨b.R, 0, none⟩)), u9, (.int .i64 (pl : Int)), (.slice (some ⟨b.M, 0, none⟩) wl wl), (.slice (some ⟨b.C, 0, none⟩) cl cl), (.int .i64 (steps : Int)), (.pointer (some ⟨b.S, 0, none⟩)), vb, u16, u17, u18, u19, u20, u21, u22, u23, u24, u25, u26, u27, u28, u29, u30, u31, u32, u33, u34, u35, u36, u37, u38, u39, u40, u41, u42, u43, u44, u45, u46, u47, u48, u49, u50, u51, u52, u53, u54, u55, u56, u57, u58, u59, u60, u61, u62, u63, u64, u65, u66, u67, u68, u69, u70, u71, (.int .i64 (cl : Int)), (.int .i64 (cl : Int)), u74, u75, u76, u77, u78, u79, u80, u81, u82, u83, u84, u85, u86, u87, u88, u89, u90, u91, u92, u93, u94, u95, u96, u97, u98, u99, u100, u101, u102, u103, u104, u105, u106, u107, u108, u109, u110, u111, u112, u113, u114, u115, u116, u117, u118, u119, u120, u121, u122, u123, u124, u125, u126, u127, u128, u129, u130, u131, u132, u133, u134, u135, u136, u137, u138, u139, u140, u141, u142, u143, u144, u145, u146, u147, u148, u149, u150, u151, u152, u153, u154, u155, u156, u157, u158, u159, u160, u161, u162, u163, u164, u165, u166, u167, u168, u169, u170, u171, u172, u173, u174, u175, u176, u177, u178, u179, u180, u181, u182, u183, u184, u185, u186, u187, u188, u189, u190, u191, u192, u193, u194, u195, u196, u197, u198, u199, u200, u201, u202, u203, u204, u205, u206, u207, u208, u209, u210, u211, u212, u213, u214, u215, u216, u217, u218, u219, u220, u221, u222, u223, u224, u225, u226, u227, u228, u229, u230, u231, u232, u233, u234, u235], []⟩ w')
    : Code.wp Try.prog (.loop capsBody) Q ⟨#[v0, (.slice At nt ct), (.int .i64 (k0 : Int)), (.bool anch), (.pointer (some ⟨b.P, 0, none⟩)), u5, u6, u7, (.pointer (some ⟨b.R, 0, none⟩)), u9, (.int .i64 (pl : Int)), (.slice (some ⟨b.M, 0, none⟩) wl wl), (.slice (some ⟨b.C, 0, none⟩) cl cl), (.int .i64 (steps : Int)), (.pointer (some ⟨b.S, 0, none⟩)), vb, u16, u17, u18, u19, u20, u21, u22, u23, u24, u25, u26, u27, u28, u29, u30, u31, u32, u33, u34, u35, u36, u37, u38, u39, u40, u41, u42, u43, u44, u45, u46, u47, u48, u49, u50, u51, u52, u53, u54, u55, u56, u57, u58, u59, u60, u61, u62, u63, u64, u65, u66, u67, u68, u69, u70, u71, (.int .i64 (cl : Int)), (.int .i64 0), u74, u75, u76, u77, u78, u79, u80, u81, u82, u83, u84, u85, u86, u87, u88, u89, u90, u91, u92, u93, u94, u95, u96, u97, u98, u99, u100, u101, u102, u103, u104, u105, u106, u107, u108, u109, u110, u111, u112, u113, u114, u115, u116, u117, u118, u119, u120, u121, u122, u123, u124, u125, u126, u127, u128, u129, u130, u131, u132, u133, u134, u135, u136, u137, u138, u139, u140, u141, u142, u143, u144, u145, u146, u147, u148, u149, u150, u151, u152, u153, u154, u155, u156, u157, u158, u159, u160, u161, u162, u163, u164, u165, u166, u167, u168, u169, u170, u171, u172, u173, u174, u175, u176, u177, u178, u179, u180, u181, u182, u183, u184, u185, u186, u187, u188, u189, u190, u191, u192, u193, u194, u195, u196, u197, u198, u199, u200, u201, u202, u203, u204, u205, u206, u207, u208, u209, u210, u211, u212, u213, u214, u215, u216, u217, u218, u219, u220, u221, u222, u223, u224, u225, u226, u227, u228, u229, u230, u231, u232, u233, u234, u235], []⟩ w := by
  refine wp_loop_ghost (CI w0 b A At n c nt ct k0 pl wl cl start caps V ws anch v0 vb steps s) cl ?_ ?_
  · unfold CI
    exact ⟨u5, u6, u7, u9, u16, u17, u18, u19, u20, u21, u22, u23, u24, u25, u26, u27, u28, u29, u30, u31, u32, u33, u34, u35, u36, u37, u38, u39, u40, u41, u42, u43, u44, u45, u46, u47, u48, u49, u50, u51, u52, u53, u54, u55, u56, u57, u58, u59, u60, u61, u62, u63, u64, u65, u66, u67, u68, u69, u70, u71, u74, u75, u76, u77, u78, u79, u80, u81, u82, u83, u84, u85, u86, u87, u88, u89, u90, u91, u92, u93, u94, u95, u96, u97, u98, u99, u100, u101, u102, u103, u104, u105, u106, u107, u108, u109, u110, u111, u112, u113, u114, u115, u116, u117, u118, u119, u120, u121, u122, u123, u124, u125, u126, u127, u128, u129, u130, u131, u132, u133, u134, u135, u136, u137, u138, u139, u140, u141, u142, u143, u144, u145, u146, u147, u148, u149, u150, u151, u152, u153, u154, u155, u156, u157, u158, u159, u160, u161, u162, u163, u164, u165, u166, u167, u168, u169, u170, u171, u172, u173, u174, u175, u176, u177, u178, u179, u180, u181, u182, u183, u184, u185, u186, u187, u188, u189, u190, u191, u192, u193, u194, u195, u196, u197, u198, u199, u200, u201, u202, u203, u204, u205, u206, u207, u208, u209, u210, u211, u212, u213, u214, u215, u216, u217, u218, u219, u220, u221, u222, u223, u224, u225, u226, u227, u228, u229, u230, u231, u232, u233, u234, u235, _, 0, ⟨rfl, Nat.zero_le _, rfl, h⟩, rfl⟩
  · intro m a w hI
    unfold CI at hI
    obtain ⟨u5, hI⟩ := hI
    obtain ⟨u6, hI⟩ := hI
    obtain ⟨u7, hI⟩ := hI
    obtain ⟨u9, hI⟩ := hI
    obtain ⟨u16, hI⟩ := hI
    obtain ⟨u17, hI⟩ := hI
    obtain ⟨u18, hI⟩ := hI
    obtain ⟨u19, hI⟩ := hI
    obtain ⟨u20, hI⟩ := hI
    obtain ⟨u21, hI⟩ := hI
    obtain ⟨u22, hI⟩ := hI
    obtain ⟨u23, hI⟩ := hI
    obtain ⟨u24, hI⟩ := hI
    obtain ⟨u25, hI⟩ := hI
    obtain ⟨u26, hI⟩ := hI
    obtain ⟨u27, hI⟩ := hI
    obtain ⟨u28, hI⟩ := hI
    obtain ⟨u29, hI⟩ := hI
    obtain ⟨u30, hI⟩ := hI
    obtain ⟨u31, hI⟩ := hI
    obtain ⟨u32, hI⟩ := hI
    obtain ⟨u33, hI⟩ := hI
    obtain ⟨u34, hI⟩ := hI
    obtain ⟨u35, hI⟩ := hI
    obtain ⟨u36, hI⟩ := hI
    obtain ⟨u37, hI⟩ := hI
    obtain ⟨u38, hI⟩ := hI
    obtain ⟨u39, hI⟩ := hI
    obtain ⟨u40, hI⟩ := hI
    obtain ⟨u41, hI⟩ := hI
    obtain ⟨u42, hI⟩ := hI
    obtain ⟨u43, hI⟩ := hI
    obtain ⟨u44, hI⟩ := hI
    obtain ⟨u45, hI⟩ := hI
    obtain ⟨u46, hI⟩ := hI
    obtain ⟨u47, hI⟩ := hI
    obtain ⟨u48, hI⟩ := hI
    obtain ⟨u49, hI⟩ := hI
    obtain ⟨u50, hI⟩ := hI
    obtain ⟨u51, hI⟩ := hI
    obtain ⟨u52, hI⟩ := hI
    obtain ⟨u53, hI⟩ := hI
    obtain ⟨u54, hI⟩ := hI
    obtain ⟨u55, hI⟩ := hI
    obtain ⟨u56, hI⟩ := hI
    obtain ⟨u57, hI⟩ := hI
    obtain ⟨u58, hI⟩ := hI
    obtain ⟨u59, hI⟩ := hI
    obtain ⟨u60, hI⟩ := hI
    obtain ⟨u61, hI⟩ := hI
    obtain ⟨u62, hI⟩ := hI
    obtain ⟨u63, hI⟩ := hI
    obtain ⟨u64, hI⟩ := hI
    obtain ⟨u65, hI⟩ := hI
    obtain ⟨u66, hI⟩ := hI
    obtain ⟨u67, hI⟩ := hI
    obtain ⟨u68, hI⟩ := hI
    obtain ⟨u69, hI⟩ := hI
    obtain ⟨u70, hI⟩ := hI
    obtain ⟨u71, hI⟩ := hI
    obtain ⟨u74, hI⟩ := hI
    obtain ⟨u75, hI⟩ := hI
    obtain ⟨u76, hI⟩ := hI
    obtain ⟨u77, hI⟩ := hI
    obtain ⟨u78, hI⟩ := hI
    obtain ⟨u79, hI⟩ := hI
    obtain ⟨u80, hI⟩ := hI
    obtain ⟨u81, hI⟩ := hI
    obtain ⟨u82, hI⟩ := hI
    obtain ⟨u83, hI⟩ := hI
    obtain ⟨u84, hI⟩ := hI
    obtain ⟨u85, hI⟩ := hI
    obtain ⟨u86, hI⟩ := hI
    obtain ⟨u87, hI⟩ := hI
    obtain ⟨u88, hI⟩ := hI
    obtain ⟨u89, hI⟩ := hI
    obtain ⟨u90, hI⟩ := hI
    obtain ⟨u91, hI⟩ := hI
    obtain ⟨u92, hI⟩ := hI
    obtain ⟨u93, hI⟩ := hI
    obtain ⟨u94, hI⟩ := hI
    obtain ⟨u95, hI⟩ := hI
    obtain ⟨u96, hI⟩ := hI
    obtain ⟨u97, hI⟩ := hI
    obtain ⟨u98, hI⟩ := hI
    obtain ⟨u99, hI⟩ := hI
    obtain ⟨u100, hI⟩ := hI
    obtain ⟨u101, hI⟩ := hI
    obtain ⟨u102, hI⟩ := hI
    obtain ⟨u103, hI⟩ := hI
    obtain ⟨u104, hI⟩ := hI
    obtain ⟨u105, hI⟩ := hI
    obtain ⟨u106, hI⟩ := hI
    obtain ⟨u107, hI⟩ := hI
    obtain ⟨u108, hI⟩ := hI
    obtain ⟨u109, hI⟩ := hI
    obtain ⟨u110, hI⟩ := hI
    obtain ⟨u111, hI⟩ := hI
    obtain ⟨u112, hI⟩ := hI
    obtain ⟨u113, hI⟩ := hI
    obtain ⟨u114, hI⟩ := hI
    obtain ⟨u115, hI⟩ := hI
    obtain ⟨u116, hI⟩ := hI
    obtain ⟨u117, hI⟩ := hI
    obtain ⟨u118, hI⟩ := hI
    obtain ⟨u119, hI⟩ := hI
    obtain ⟨u120, hI⟩ := hI
    obtain ⟨u121, hI⟩ := hI
    obtain ⟨u122, hI⟩ := hI
    obtain ⟨u123, hI⟩ := hI
    obtain ⟨u124, hI⟩ := hI
    obtain ⟨u125, hI⟩ := hI
    obtain ⟨u126, hI⟩ := hI
    obtain ⟨u127, hI⟩ := hI
    obtain ⟨u128, hI⟩ := hI
    obtain ⟨u129, hI⟩ := hI
    obtain ⟨u130, hI⟩ := hI
    obtain ⟨u131, hI⟩ := hI
    obtain ⟨u132, hI⟩ := hI
    obtain ⟨u133, hI⟩ := hI
    obtain ⟨u134, hI⟩ := hI
    obtain ⟨u135, hI⟩ := hI
    obtain ⟨u136, hI⟩ := hI
    obtain ⟨u137, hI⟩ := hI
    obtain ⟨u138, hI⟩ := hI
    obtain ⟨u139, hI⟩ := hI
    obtain ⟨u140, hI⟩ := hI
    obtain ⟨u141, hI⟩ := hI
    obtain ⟨u142, hI⟩ := hI
    obtain ⟨u143, hI⟩ := hI
    obtain ⟨u144, hI⟩ := hI
    obtain ⟨u145, hI⟩ := hI
    obtain ⟨u146, hI⟩ := hI
    obtain ⟨u147, hI⟩ := hI
    obtain ⟨u148, hI⟩ := hI
    obtain ⟨u149, hI⟩ := hI
    obtain ⟨u150, hI⟩ := hI
    obtain ⟨u151, hI⟩ := hI
    obtain ⟨u152, hI⟩ := hI
    obtain ⟨u153, hI⟩ := hI
    obtain ⟨u154, hI⟩ := hI
    obtain ⟨u155, hI⟩ := hI
    obtain ⟨u156, hI⟩ := hI
    obtain ⟨u157, hI⟩ := hI
    obtain ⟨u158, hI⟩ := hI
    obtain ⟨u159, hI⟩ := hI
    obtain ⟨u160, hI⟩ := hI
    obtain ⟨u161, hI⟩ := hI
    obtain ⟨u162, hI⟩ := hI
    obtain ⟨u163, hI⟩ := hI
    obtain ⟨u164, hI⟩ := hI
    obtain ⟨u165, hI⟩ := hI
    obtain ⟨u166, hI⟩ := hI
    obtain ⟨u167, hI⟩ := hI
    obtain ⟨u168, hI⟩ := hI
    obtain ⟨u169, hI⟩ := hI
    obtain ⟨u170, hI⟩ := hI
    obtain ⟨u171, hI⟩ := hI
    obtain ⟨u172, hI⟩ := hI
    obtain ⟨u173, hI⟩ := hI
    obtain ⟨u174, hI⟩ := hI
    obtain ⟨u175, hI⟩ := hI
    obtain ⟨u176, hI⟩ := hI
    obtain ⟨u177, hI⟩ := hI
    obtain ⟨u178, hI⟩ := hI
    obtain ⟨u179, hI⟩ := hI
    obtain ⟨u180, hI⟩ := hI
    obtain ⟨u181, hI⟩ := hI
    obtain ⟨u182, hI⟩ := hI
    obtain ⟨u183, hI⟩ := hI
    obtain ⟨u184, hI⟩ := hI
    obtain ⟨u185, hI⟩ := hI
    obtain ⟨u186, hI⟩ := hI
    obtain ⟨u187, hI⟩ := hI
    obtain ⟨u188, hI⟩ := hI
    obtain ⟨u189, hI⟩ := hI
    obtain ⟨u190, hI⟩ := hI
    obtain ⟨u191, hI⟩ := hI
    obtain ⟨u192, hI⟩ := hI
    obtain ⟨u193, hI⟩ := hI
    obtain ⟨u194, hI⟩ := hI
    obtain ⟨u195, hI⟩ := hI
    obtain ⟨u196, hI⟩ := hI
    obtain ⟨u197, hI⟩ := hI
    obtain ⟨u198, hI⟩ := hI
    obtain ⟨u199, hI⟩ := hI
    obtain ⟨u200, hI⟩ := hI
    obtain ⟨u201, hI⟩ := hI
    obtain ⟨u202, hI⟩ := hI
    obtain ⟨u203, hI⟩ := hI
    obtain ⟨u204, hI⟩ := hI
    obtain ⟨u205, hI⟩ := hI
    obtain ⟨u206, hI⟩ := hI
    obtain ⟨u207, hI⟩ := hI
    obtain ⟨u208, hI⟩ := hI
    obtain ⟨u209, hI⟩ := hI
    obtain ⟨u210, hI⟩ := hI
    obtain ⟨u211, hI⟩ := hI
    obtain ⟨u212, hI⟩ := hI
    obtain ⟨u213, hI⟩ := hI
    obtain ⟨u214, hI⟩ := hI
    obtain ⟨u215, hI⟩ := hI
    obtain ⟨u216, hI⟩ := hI
    obtain ⟨u217, hI⟩ := hI
    obtain ⟨u218, hI⟩ := hI
    obtain ⟨u219, hI⟩ := hI
    obtain ⟨u220, hI⟩ := hI
    obtain ⟨u221, hI⟩ := hI
    obtain ⟨u222, hI⟩ := hI
    obtain ⟨u223, hI⟩ := hI
    obtain ⟨u224, hI⟩ := hI
    obtain ⟨u225, hI⟩ := hI
    obtain ⟨u226, hI⟩ := hI
    obtain ⟨u227, hI⟩ := hI
    obtain ⟨u228, hI⟩ := hI
    obtain ⟨u229, hI⟩ := hI
    obtain ⟨u230, hI⟩ := hI
    obtain ⟨u231, hI⟩ := hI
    obtain ⟨u232, hI⟩ := hI
    obtain ⟨u233, hI⟩ := hI
    obtain ⟨u234, hI⟩ := hI
    obtain ⟨u235, hI⟩ := hI
    obtain ⟨sv, i, ⟨rfl, hi, hm, hr⟩, rfl⟩ := hI
    rcases Nat.lt_or_ge i cl with hlt | hge
    · refine caps_go u5 u6 u7 u9 u16 u17 u18 u19 u20 u21 u22 u23 u24 u25 u26 u27 u28 u29 u30 u31 u32 u33 u34 u35 u36 u37 u38 u39 u40 u41 u42 u43 u44 u45 u46 u47 u48 u49 u50 u51 u52 u53 u54 u55 u56 u57 u58 u59 u60 u61 u62 u63 u64 u65 u66 u67 u68 u69 u70 u71 u74 u75 u76 u77 u78 u79 u80 u81 u82 u83 u84 u85 u86 u87 u88 u89 u90 u91 u92 u93 u94 u95 u96 u97 u98 u99 u100 u101 u102 u103 u104 u105 u106 u107 u108 u109 u110 u111 u112 u113 u114 u115 u116 u117 u118 u119 u120 u121 u122 u123 u124 u125 u126 u127 u128 u129 u130 u131 u132 u133 u134 u135 u136 u137 u138 u139 u140 u141 u142 u143 u144 u145 u146 u147 u148 u149 u150 u151 u152 u153 u154 u155 u156 u157 u158 u159 u160 u161 u162 u163 u164 u165 u166 u167 u168 u169 u170 u171 u172 u173 u174 u175 u176 u177 u178 u179 u180 u181 u182 u183 u184 u185 u186 u187 u188 u189 u190 u191 u192 u193 u194 u195 u196 u197 u198 u199 u200 u201 u202 u203 u204 u205 u206 u207 u208 u209 u210 u211 u212 u213 u214 u215 u216 u217 u218 u219 u220 u221 u222 u223 u224 u225 u226 u227 u228 u229 u230 u231 u232 u233 u234 u235 hr hlt (by simp; omega) hcap ?_
      intro u5 u6 u7 u9 u16 u17 u18 u19 u20 u21 u22 u23 u24 u25 u26 u27 u28 u29 u30 u31 u32 u33 u34 u35 u36 u37 u38 u39 u40 u41 u42 u43 u44 u45 u46 u47 u48 u49 u50 u51 u52 u53 u54 u55 u56 u57 u58 u59 u60 u61 u62 u63 u64 u65 u66 u67 u68 u69 u70 u71 u74 u75 u76 u77 u78 u79 u80 u81 u82 u83 u84 u85 u86 u87 u88 u89 u90 u91 u92 u93 u94 u95 u96 u97 u98 u99 u100 u101 u102 u103 u104 u105 u106 u107 u108 u109 u110 u111 u112 u113 u114 u115 u116 u117 u118 u119 u120 u121 u122 u123 u124 u125 u126 u127 u128 u129 u130 u131 u132 u133 u134 u135 u136 u137 u138 u139 u140 u141 u142 u143 u144 u145 u146 u147 u148 u149 u150 u151 u152 u153 u154 u155 u156 u157 u158 u159 u160 u161 u162 u163 u164 u165 u166 u167 u168 u169 u170 u171 u172 u173 u174 u175 u176 u177 u178 u179 u180 u181 u182 u183 u184 u185 u186 u187 u188 u189 u190 u191 u192 u193 u194 u195 u196 u197 u198 u199 u200 u201 u202 u203 u204 u205 u206 u207 u208 u209 u210 u211 u212 u213 u214 u215 u216 u217 u218 u219 u220 u221 u222 u223 u224 u225 u226 u227 u228 u229 u230 u231 u232 u233 u234 u235 w' hr'
      refine ⟨cl - (i + 1), by omega, ?_⟩
      unfold CI
      refine ⟨u5, u6, u7, u9, u16, u17, u18, u19, u20, u21, u22, u23, u24, u25, u26, u27, u28, u29, u30, u31, u32, u33, u34, u35, u36, u37, u38, u39, u40, u41, u42, u43, u44, u45, u46, u47, u48, u49, u50, u51, u52, u53, u54, u55, u56, u57, u58, u59, u60, u61, u62, u63, u64, u65, u66, u67, u68, u69, u70, u71, u74, u75, u76, u77, u78, u79, u80, u81, u82, u83, u84, u85, u86, u87, u88, u89, u90, u91, u92, u93, u94, u95, u96, u97, u98, u99, u100, u101, u102, u103, u104, u105, u106, u107, u108, u109, u110, u111, u112, u113, u114, u115, u116, u117, u118, u119, u120, u121, u122, u123, u124, u125, u126, u127, u128, u129, u130, u131, u132, u133, u134, u135, u136, u137, u138, u139, u140, u141, u142, u143, u144, u145, u146, u147, u148, u149, u150, u151, u152, u153, u154, u155, u156, u157, u158, u159, u160, u161, u162, u163, u164, u165, u166, u167, u168, u169, u170, u171, u172, u173, u174, u175, u176, u177, u178, u179, u180, u181, u182, u183, u184, u185, u186, u187, u188, u189, u190, u191, u192, u193, u194, u195, u196, u197, u198, u199, u200, u201, u202, u203, u204, u205, u206, u207, u208, u209, u210, u211, u212, u213, u214, u215, u216, u217, u218, u219, u220, u221, u222, u223, u224, u225, u226, u227, u228, u229, u230, u231, u232, u233, u234, u235, _, i + 1, ⟨rfl, hlt, rfl, ?_⟩, rfl⟩
      have e := caps_set s.caps i (by omega)
      simp only [] at hr'
      rw [e] at hr'
      exact hr'
    · obtain rfl : i = cl := by omega
      refine caps_end (s := s) (w0 := w0) (A := A) (c := c) (n := n) (start := start) (caps := caps) (V := V) (ws := ws) u5 u6 u7 u9 u16 u17 u18 u19 u20 u21 u22 u23 u24 u25 u26 u27 u28 u29 u30 u31 u32 u33 u34 u35 u36 u37 u38 u39 u40 u41 u42 u43 u44 u45 u46 u47 u48 u49 u50 u51 u52 u53 u54 u55 u56 u57 u58 u59 u60 u61 u62 u63 u64 u65 u66 u67 u68 u69 u70 u71 u74 u75 u76 u77 u78 u79 u80 u81 u82 u83 u84 u85 u86 u87 u88 u89 u90 u91 u92 u93 u94 u95 u96 u97 u98 u99 u100 u101 u102 u103 u104 u105 u106 u107 u108 u109 u110 u111 u112 u113 u114 u115 u116 u117 u118 u119 u120 u121 u122 u123 u124 u125 u126 u127 u128 u129 u130 u131 u132 u133 u134 u135 u136 u137 u138 u139 u140 u141 u142 u143 u144 u145 u146 u147 u148 u149 u150 u151 u152 u153 u154 u155 u156 u157 u158 u159 u160 u161 u162 u163 u164 u165 u166 u167 u168 u169 u170 u171 u172 u173 u174 u175 u176 u177 u178 u179 u180 u181 u182 u183 u184 u185 u186 u187 u188 u189 u190 u191 u192 u193 u194 u195 u196 u197 u198 u199 u200 u201 u202 u203 u204 u205 u206 u207 u208 u209 u210 u211 u212 u213 u214 u215 u216 u217 u218 u219 u220 u221 u222 u223 u224 u225 u226 u227 u228 u229 u230 u231 u232 u233 u234 u235 ?_
      intro u5 u6 u7 u9 u16 u17 u18 u19 u20 u21 u22 u23 u24 u25 u26 u27 u28 u29 u30 u31 u32 u33 u34 u35 u36 u37 u38 u39 u40 u41 u42 u43 u44 u45 u46 u47 u48 u49 u50 u51 u52 u53 u54 u55 u56 u57 u58 u59 u60 u61 u62 u63 u64 u65 u66 u67 u68 u69 u70 u71 u74 u75 u76 u77 u78 u79 u80 u81 u82 u83 u84 u85 u86 u87 u88 u89 u90 u91 u92 u93 u94 u95 u96 u97 u98 u99 u100 u101 u102 u103 u104 u105 u106 u107 u108 u109 u110 u111 u112 u113 u114 u115 u116 u117 u118 u119 u120 u121 u122 u123 u124 u125 u126 u127 u128 u129 u130 u131 u132 u133 u134 u135 u136 u137 u138 u139 u140 u141 u142 u143 u144 u145 u146 u147 u148 u149 u150 u151 u152 u153 u154 u155 u156 u157 u158 u159 u160 u161 u162 u163 u164 u165 u166 u167 u168 u169 u170 u171 u172 u173 u174 u175 u176 u177 u178 u179 u180 u181 u182 u183 u184 u185 u186 u187 u188 u189 u190 u191 u192 u193 u194 u195 u196 u197 u198 u199 u200 u201 u202 u203 u204 u205 u206 u207 u208 u209 u210 u211 u212 u213 u214 u215 u216 u217 u218 u219 u220 u221 u222 u223 u224 u225 u226 u227 u228 u229 u230 u231 u232 u233 u234 u235
      refine hQ u5 u6 u7 u9 u16 u17 u18 u19 u20 u21 u22 u23 u24 u25 u26 u27 u28 u29 u30 u31 u32 u33 u34 u35 u36 u37 u38 u39 u40 u41 u42 u43 u44 u45 u46 u47 u48 u49 u50 u51 u52 u53 u54 u55 u56 u57 u58 u59 u60 u61 u62 u63 u64 u65 u66 u67 u68 u69 u70 u71 u74 u75 u76 u77 u78 u79 u80 u81 u82 u83 u84 u85 u86 u87 u88 u89 u90 u91 u92 u93 u94 u95 u96 u97 u98 u99 u100 u101 u102 u103 u104 u105 u106 u107 u108 u109 u110 u111 u112 u113 u114 u115 u116 u117 u118 u119 u120 u121 u122 u123 u124 u125 u126 u127 u128 u129 u130 u131 u132 u133 u134 u135 u136 u137 u138 u139 u140 u141 u142 u143 u144 u145 u146 u147 u148 u149 u150 u151 u152 u153 u154 u155 u156 u157 u158 u159 u160 u161 u162 u163 u164 u165 u166 u167 u168 u169 u170 u171 u172 u173 u174 u175 u176 u177 u178 u179 u180 u181 u182 u183 u184 u185 u186 u187 u188 u189 u190 u191 u192 u193 u194 u195 u196 u197 u198 u199 u200 u201 u202 u203 u204 u205 u206 u207 u208 u209 u210 u211 u212 u213 u214 u215 u216 u217 u218 u219 u220 u221 u222 u223 u224 u225 u226 u227 u228 u229 u230 u231 u232 u233 u234 u235 _ ?_
      rw [List.drop_of_length_le (by omega), List.append_nil] at hr
      exact hr
end Go.Proofs.Ytclbbfkgdhmheaa
/- bitstate.Run: a round over a pair that is met now. -/
namespace Go.Proofs.Ytclbbfkgdhmheaa
open Go.RowKit Go.Proofs.Ytclbbfkgdhmheaa.Mach

set_option maxRecDepth 1000000 in
set_option maxHeartbeats 4000000 in
theorem round_nop {w0 : World} {b : Blocks} {A At : Option Addr} {n c nt ct k0 pl wl cl : Nat} {start caps : Int} {V : Value} {ws : List Nat} {s : MS} {w : World} {anch : Bool} {v0 vb : Value} {L : List InV} {t : List Int} {i k q : Nat} {r : List Job} {v : InV} (u5 u6 u7 u9 u16 u17 u18 u19 u20 u21 u22 u23 u24 u25 u26 u27 u28 u29 u30 u31 u32 u33 u34 u35 u36 u37 u38 u39 u40 u41 u42 u43 u44 u45 u46 u47 u48 u49 u50 u51 u52 u53 u54 u55 u56 u57 u58 u59 u60 u61 u62 u63 u64 u65 u66 u67 u68 u69 u70 u71 u72 u73 u74 u75 u76 u77 u78 u79 u80 u81 u82 u83 u84 u85 u86 u87 u88 u89 u90 u91 u92 u93 u94 u95 u96 u97 u98 u99 u100 u101 u102 u103 u104 u105 u106 u107 u108 u109 u110 u111 u112 u113 u114 u115 u116 u117 u118 u119 u120 u121 u122 u123 u124 u125 u126 u127 u128 u129 u130 u131 u132 u133 u134 u135 u136 u137 u138 u139 u140 u141 u142 u143 u144 u145 u146 u147 u148 u149 u150 u151 u152 u153 u154 u155 u156 u157 u158 u159 u160 u161 u162 u163 u164 u165 u166 u167 u168 u169 u170 u171 u172 u173 u174 u175 u176 u177 u178 u179 u180 u181 u182 u183 u184 u185 u186 u187 u188 u189 u190 u191 u192 u193 u194 u195 u196 u197 u198 u199 u200 u201 u202 u203 u204 u205 u206 u207 u208 u209 u210 u211 u212 u213 u214 u215 u216 u217 u218 u219 u220 u221 u222 u223 u224 u225 u226 u227 u228 u229 u230 u231 u232 u233 u234 u235 : Value) {K : Act → World → Prop} {Q : Exit → Act → World → Prop}
    (h : Rn w0 b A n c start caps V ws s w) (ht : s.todo = .pair i k :: r) (hroom : r.length ≤ 999999990) (hi : i ≤ 20000) (hk : k ≤ 4194304) (hk0 : k0 ≤ k) (hpl : pl ≤ 4194305) (hq : i * pl + (k - k0) = q) (hq2 : q < s.met.length) (hq3 : s.met.length ≤ 16777216) (hst : s.steps ≤ 16777216) (hwl : wl = ws.length) (hm : s.met.getD q true = false)
    (hP : ReadsP w0 w0.heap.size A n c L) (hv : L[i]? = some v)
    (hop : v.I.op = 7) (hix : 0 ≤ v.I.x)
    (hK : ∀ (u5 u6 u7 u9 u16 u17 u18 u19 u20 u21 u22 u23 u24 u25 u26 u27 u28 u29 u30 u31 u32 u33 u34 u35 u36 u37 u38 u39 u40 u41 u42 u43 u44 u45 u46 u47 u48 u49 u50 u51 u52 u53 u54 u55 u56 u57 u58 u59 u60 u61 u62 u63 u64 u65 u66 u67 u68 u69 u70 u71 u72 u73 u74 u75 u76 u77 u78 u79 u80 u81 u82 u83 u84 u85 u86 u87 u88 u89 u90 u91 u92 u93 u94 u95 u96 u97 u98 u99 u100 u101 u102 u103 u104 u105 u106 u107 u108 u109 u110 u111 u112 u113 u114 u115 u116 u117 u118 u119 u120 u121 u122 u123 u124 u125 u126 u127 u128 u129 u130 u131 u132 u133 u134 u135 u136 u137 u138 u139 u140 u141 u142 u143 u144 u145 u146 u147 u148 u149 u150 u151 u152 u153 u154 u155 u156 u157 u158 u159 u160 u161 u162 u163 u164 u165 u166 u167 u168 u169 u170 u171 u172 u173 u174 u175 u176 u177 u178 u179 u180 u181 u182 u183 u184 u185 u186 u187 u188 u189 u190 u191 u192 u193 u194 u195 u196 u197 u198 u199 u200 u201 u202 u203 u204 u205 u206 u207 u208 u209 u210 u211 u212 u213 u214 u215 u216 u217 u218 u219 u220 u221 u222 u223 u224 u225 u226 u227 u228 u229 u230 u231 u232 u233 u234 u235 : Value) (w' : World), (∃ V' ws', Rn w0 b A n c start caps V' ws' (eff t v.I k { s with todo := r, met := s.met.set q true, steps := s.steps + 1 }) w') → K ⟨#[v0, (.slice At nt ct), (.int .i64 (k0 : Int)), (.bool anch), (.pointer (some ⟨b.P, 0, none⟩)), u5, u6, u7, (.pointer (some ⟨b.R, 0, none⟩)), u9, (.int .i64 (pl : Int)), (.slice (some ⟨b.M, 0, none⟩) wl wl), (.slice (some ⟨b.C, 0, none⟩) cl cl), (.int .i64 ((s.steps : Int) + 1)), (.pointer (some ⟨b.S, 0, none⟩)), vb, u16, u17, u18, u19, u20, u21, u22, u23, u24, u25, u26, u27, u28, u29, u30, u31, u32, u33, u34, u35, u36, u37, u38, u39, u40, u41, u42, u43, u44, u45, u46, u47, u48, u49, u50, u51, u52, u53, u54, u55, u56, u57, u58, u59, u60, u61, u62, u63, u64, u65, u66, u67, u68, u69, u70, u71, u72, u73, u74, u75, u76, u77, u78, u79, u80, u81, u82, u83, u84, u85, u86, u87, u88, u89, u90, u91, u92, u93, u94, u95, u96, u97, u98, u99, u100, u101, u102, u103, u104, u105, u106, u107, u108, u109, u110, u111, u112, u113, u114, u115, u116, u117, u118, u119, u120, u121, u122, u123, u124, u125, u126, u127, u128, u129, u130, u131, u132, u133, u134, u135, u136, u137, u138, u139, u140, u141, u142, u143, u144, u145, u146, u147, u148, u149, u150, u151, u152, u153, u154, u155, u156, u157, u158, u159, u160, u161, u162, u163, u164, u165, u166, u167, u168, u169, u170, u171, u172, u173, u174, u175, u176, u177, u178, u179, u180, u181, u182, u183, u184, u185, u186, u187, u188, u189, u190, u191, u192, u193, u194, u195, u196, u197, u198, u199, u200, u201, u202, u203, u204, u205, u206, u207, u208, u209, u210, u211, u212, u213, u214, u215, u216, u217, u218, u219, u220, u221, u222, u223, u224, u225, u226, u227, u228, u229, u230, u231, u232, u233, u234, u235], []⟩ w')
    : Code.wp Try.prog pairsBody (Exit.then K Q) ⟨#[v0, (.slice At nt ct), (.int .i64 (k0 : Int)), (.bool anch), (.pointer (some ⟨b.P, 0, none⟩)), u5, u6, u7, (.pointer (some ⟨b.R, 0, none⟩)), u9, (.int .i64 (pl : Int)), (.slice (some ⟨b.M, 0, none⟩) wl wl), (.slice (some ⟨b.C, 0, none⟩) cl cl), (.int .i64 (s.steps : Int)), (.pointer (some ⟨b.S, 0, none⟩)), vb, u16, u17, u18, u19, u20, u21, u22, u23, u24, u25, u26, u27, u28, u29, u30, u31, u32, u33, u34, u35, u36, u37, u38, u39, u40, u41, u42, u43, u44, u45, u46, u47, u48, u49, u50, u51, u52, u53, u54, u55, u56, u57, u58, u59, u60, u61, u62, u63, u64, u65, u66, u67, u68, u69, u70, u71, u72, u73, u74, u75, u76, u77, u78, u79, u80, u81, u82, u83, u84, u85, u86, u87, u88, u89, u90, u91, u92, u93, u94, u95, u96, u97, u98, u99, u100, u101, u102, u103, u104, u105, u106, u107, u108, u109, u110, u111, u112, u113, u114, u115, u116, u117, u118, u119, u120, u121, u122, u123, u124, u125, u126, u127, u128, u129, u130, u131, u132, u133, u134, u135, u136, u137, u138, u139, u140, u141, u142, u143, u144, u145, u146, u147, u148, u149, u150, u151, u152, u153, u154, u155, u156, u157, u158, u159, u160, u161, u162, u163, u164, u165, u166, u167, u168, u169, u170, u171, u172, u173, u174, u175, u176, u177, u178, u179, u180, u181, u182, u183, u184, u185, u186, u187, u188, u189, u190, u191, u192, u193, u194, u195, u196, u197, u198, u199, u200, u201, u202, u203, u204, u205, u206, u207, u208, u209, u210, u211, u212, u213, u214, u215, u216, u217, u218, u219, u220, u221, u222, u223, u224, u225, u226, u227, u228, u229, u230, u231, u232, u233, u234, u235], []⟩ w := by
  have hs := h.stk
  rw [ht] at hs
  have H := Lib.hid h
  have HP := Lib.hid (pop_any w0.heap.size b.S V r (.pair i k) w (i : Int) (k : Int) 0 0 rfl hs (by omega))
  have HK := Lib.hid hK
  obtain ⟨x, hx, hx64, hxb⟩ := h.bits.at_ hq2
  have hmt := mask_test x (q % 64) hx64
  rw [hxb, hm] at hmt
  obtain ⟨y, hy⟩ : ∃ y, bits .and .u64 ((x : Int) / 2 ^ (q % 64)) 1 = y := ⟨_, rfl⟩
  rw [hy] at hmt
  have hms := mask_set x (q % 64) hx64 (by omega)
  have hxc : (ws.map fun x : Nat => Value.int .u64 (x : Int))[q / 64]? = some (.int .u64 (x : Int)) := by rw [List.getElem?_map, hx]; rfl
  have HXC := Lib.hid hxc
  have HX := Lib.hid hx
  have HQ := Lib.hid hq2
  have hql : q / 64 < ws.length := (List.getElem?_eq_some_iff.1 hx).1
  have hq6 : ((q / 64 : Nat) : Int) < (wl : Int) := by omega
  have hmul : 0 ≤ (i : Int) * (pl : Int) ∧ (i : Int) * (pl : Int) + (k : Int) - (k0 : Int) = (q : Int) := by
    have : (i : Int) * (pl : Int) = ((i * pl : Nat) : Int) := by norm_cast
    rw [this]; omega
  obtain ⟨hm1, hm2⟩ := hmul
  have hm3 : (i : Int) * (pl : Int) ≤ 16777216 := by omega
  have HRP := Lib.hid hP
  have hin : i < n := by have := hP.len; have := (List.getElem?_eq_some_iff.1 hv).1; omega
  have HV := Lib.hid hv
  obtain ⟨ab, ao, rfl, hab⟩ := hP.at_ (by omega)
  obtain ⟨⟨iop, ix, iy, iarg, irng⟩, iA, inn, ic⟩ := v
  obtain rfl : iop = 7 := hop
  simp only [] at hix
  clear h hs ht hK hxc hx hx64 hxb hq hm hwl hq2 hP hv
  conv => arg 2; whnf
  go_wp2_with (go_at_call 21; refine HP.out.mono ?_; rintro e w1 ⟨rfl, V1, hs1, hk1, _⟩; have H1 := Lib.hid (H.out.stacked hk1 hs1); have q1 : w1.cell? ⟨b.M, q / 64, none⟩ = some (.int .u64 (x : Int)) := (H1.out.met.cell (q / 64)).trans HXC.out; have q2 : w1.frozen? ⟨b.M, q / 64, none⟩ = false := H1.out.met.frozen (q / 64); have q3 : b.M < w1.heap.size := H1.out.met.lt; clear hs1 hk1; simp only [])
  go_region
  have hn := Lib.hid (((H1.out.marked HQ.out HX.out).later ((Below.refl _ _).alloc (Nat.le_refl _) (.cells #[.int .i64 (i : Int), .int .i64 (k : Int), .int .i64 0, .int .i64 0] 65))).drew)
  have hjb : Blk (((w1.setCell ⟨b.M, q / 64, none⟩ (.int .u64 ((x ||| 2 ^ (q % 64) : Nat) : Int))).alloc (.cells #[.int .i64 (i : Int), .int .i64 (k : Int), .int .i64 0, .int .i64 0] 65)).drew) w1.heap.size 65 [.int .i64 (i : Int), .int .i64 (k : Int), .int .i64 0, .int .i64 0] := by
    have := Blk.new (w1.setCell ⟨b.M, q / 64, none⟩ (.int .u64 ((x ||| 2 ^ (q % 64) : Nat) : Int))) 65 [.int .i64 (i : Int), .int .i64 (k : Int), .int .i64 0, .int .i64 0]
    rw [show (w1.setCell ⟨b.M, q / 64, none⟩ (.int .u64 ((x ||| 2 ^ (q % 64) : Nat) : Int))).heap.size = w1.heap.size from by simp [World.setCell]] at this
    exact this.drew
  clear q1 q2 q3 hms
  generalize ((w1.setCell ⟨b.M, q / 64, none⟩ (.int .u64 ((x ||| 2 ^ (q % 64) : Nat) : Int))).alloc (.cells #[.int .i64 (i : Int), .int .i64 (k : Int), .int .i64 0, .int .i64 0] 65)).drew = w2 at *
  have p0 : w2.cell? ⟨b.P, 0, none⟩ = some (.slice (some ⟨ab, ao, none⟩) n c) := hn.out.prog.cell 0
  have p1 : b.P < w2.heap.size := hn.out.prog.lt
  have j0 : w2.cell? ⟨w1.heap.size, 0, none⟩ = some (.int .i64 (i : Int)) := hjb.cell 0
  have j1 : w2.cell? ⟨w1.heap.size, 1, none⟩ = some (.int .i64 (k : Int)) := hjb.cell 1
  have j4 : w1.heap.size < w2.heap.size := hjb.lt
  have hrp2 := HRP.out.below hn.out.below
  have hab2 : ab < w2.heap.size := Nat.lt_of_lt_of_le hab hn.out.below.size
  obtain ⟨i0, i1, i2, i3, i4⟩ := hrp2.cells HV.out
  simp only [] at i0 i1 i2 i3 i4
  have HRP2 := Lib.hid hrp2
  have HJB := Lib.hid hjb
  have HNOT := Lib.hid (show ∀ g, w1.heap.size ≤ g → g ∉ (b.S :: V1.ownBlock.toList) from fun g hg hm => by
    simp only [List.mem_cons, Option.mem_toList] at hm
    rcases hm with e | e
    · obtain ⟨m, hb⟩ := H1.out.stk.blk
      have := hb.lt
      omega
    · have := (H1.out.stk.own.lt g e).2
      omega)
  clear hjb hrp2
  have HPU := Lib.hid (fun u (hb : Below w2.heap.size w2 u) => push_any w0.heap.size b.S V1 r (.pair ix.toNat k) u ix (k : Int) 0 0 (by simp [jobVals]; omega) (hn.out.later hb).stk hn.out.lo.S (by omega))
  clear hmt
  go_wp2_with (go_at_call 20; refine (HPU.out _ ((Below.refl _ _).alloc (Nat.le_refl _) _)).mono ?_; rintro e w3 ⟨rfl, V2, hs2, hk2, _⟩; simp only [])
  apply HK.out
  have hfin := (hn.out.later ((Below.refl _ _).alloc (Nat.le_refl _) (.cells #[.int .i64 7, .int .i64 ix, .int .i64 iy, .int .i64 iarg, .slice iA inn ic] 57))).stacked hk2 hs2
  exact ⟨_, _, hfin.counted (s.steps + 1) s.fin⟩

end Go.Proofs.Ytclbbfkgdhmheaa
/- bitstate.Run: a round over a pair that is met now. -/
namespace Go.Proofs.Ytclbbfkgdhmheaa
open Go.RowKit Go.Proofs.Ytclbbfkgdhmheaa.Mach

set_option maxRecDepth 1000000 in
set_option maxHeartbeats 4000000 in
theorem round_fail {w0 : World} {b : Blocks} {A At : Option Addr} {n c nt ct k0 pl wl cl : Nat} {start caps : Int} {V : Value} {ws : List Nat} {s : MS} {w : World} {anch : Bool} {v0 vb : Value} {L : List InV} {t : List Int} {i k q : Nat} {r : List Job} {v : InV} (u5 u6 u7 u9 u16 u17 u18 u19 u20 u21 u22 u23 u24 u25 u26 u27 u28 u29 u30 u31 u32 u33 u34 u35 u36 u37 u38 u39 u40 u41 u42 u43 u44 u45 u46 u47 u48 u49 u50 u51 u52 u53 u54 u55 u56 u57 u58 u59 u60 u61 u62 u63 u64 u65 u66 u67 u68 u69 u70 u71 u72 u73 u74 u75 u76 u77 u78 u79 u80 u81 u82 u83 u84 u85 u86 u87 u88 u89 u90 u91 u92 u93 u94 u95 u96 u97 u98 u99 u100 u101 u102 u103 u104 u105 u106 u107 u108 u109 u110 u111 u112 u113 u114 u115 u116 u117 u118 u119 u120 u121 u122 u123 u124 u125 u126 u127 u128 u129 u130 u131 u132 u133 u134 u135 u136 u137 u138 u139 u140 u141 u142 u143 u144 u145 u146 u147 u148 u149 u150 u151 u152 u153 u154 u155 u156 u157 u158 u159 u160 u161 u162 u163 u164 u165 u166 u167 u168 u169 u170 u171 u172 u173 u174 u175 u176 u177 u178 u179 u180 u181 u182 u183 u184 u185 u186 u187 u188 u189 u190 u191 u192 u193 u194 u195 u196 u197 u198 u199 u200 u201 u202 u203 u204 u205 u206 u207 u208 u209 u210 u211 u212 u213 u214 u215 u216 u217 u218 u219 u220 u221 u222 u223 u224 u225 u226 u227 u228 u229 u230 u231 u232 u233 u234 u235 : Value) {K : Act → World → Prop} {Q : Exit → Act → World → Prop}
    (h : Rn w0 b A n c start caps V ws s w) (ht : s.todo = .pair i k :: r) (hroom : r.length ≤ 999999990) (hi : i ≤ 20000) (hk : k ≤ 4194304) (hk0 : k0 ≤ k) (hpl : pl ≤ 4194305) (hq : i * pl + (k - k0) = q) (hq2 : q < s.met.length) (hq3 : s.met.length ≤ 16777216) (hst : s.steps ≤ 16777216) (hwl : wl = ws.length) (hm : s.met.getD q true = false)
    (hP : ReadsP w0 w0.heap.size A n c L) (hv : L[i]? = some v)
    (hop : v.I.op = 6)
    (hK : ∀ (u5 u6 u7 u9 u16 u17 u18 u19 u20 u21 u22 u23 u24 u25 u26 u27 u28 u29 u30 u31 u32 u33 u34 u35 u36 u37 u38 u39 u40 u41 u42 u43 u44 u45 u46 u47 u48 u49 u50 u51 u52 u53 u54 u55 u56 u57 u58 u59 u60 u61 u62 u63 u64 u65 u66 u67 u68 u69 u70 u71 u72 u73 u74 u75 u76 u77 u78 u79 u80 u81 u82 u83 u84 u85 u86 u87 u88 u89 u90 u91 u92 u93 u94 u95 u96 u97 u98 u99 u100 u101 u102 u103 u104 u105 u106 u107 u108 u109 u110 u111 u112 u113 u114 u115 u116 u117 u118 u119 u120 u121 u122 u123 u124 u125 u126 u127 u128 u129 u130 u131 u132 u133 u134 u135 u136 u137 u138 u139 u140 u141 u142 u143 u144 u145 u146 u147 u148 u149 u150 u151 u152 u153 u154 u155 u156 u157 u158 u159 u160 u161 u162 u163 u164 u165 u166 u167 u168 u169 u170 u171 u172 u173 u174 u175 u176 u177 u178 u179 u180 u181 u182 u183 u184 u185 u186 u187 u188 u189 u190 u191 u192 u193 u194 u195 u196 u197 u198 u199 u200 u201 u202 u203 u204 u205 u206 u207 u208 u209 u210 u211 u212 u213 u214 u215 u216 u217 u218 u219 u220 u221 u222 u223 u224 u225 u226 u227 u228 u229 u230 u231 u232 u233 u234 u235 : Value) (w' : World), (∃ V' ws', Rn w0 b A n c start caps V' ws' (eff t v.I k { s with todo := r, met := s.met.set q true, steps := s.steps + 1 }) w') → K ⟨#[v0, (.slice At nt ct), (.int .i64 (k0 : Int)), (.bool anch), (.pointer (some ⟨b.P, 0, none⟩)), u5, u6, u7, (.pointer (some ⟨b.R, 0, none⟩)), u9, (.int .i64 (pl : Int)), (.slice (some ⟨b.M, 0, none⟩) wl wl), (.slice (some ⟨b.C, 0, none⟩) cl cl), (.int .i64 ((s.steps : Int) + 1)), (.pointer (some ⟨b.S, 0, none⟩)), vb, u16, u17, u18, u19, u20, u21, u22, u23, u24, u25, u26, u27, u28, u29, u30, u31, u32, u33, u34, u35, u36, u37, u38, u39, u40, u41, u42, u43, u44, u45, u46, u47, u48, u49, u50, u51, u52, u53, u54, u55, u56, u57, u58, u59, u60, u61, u62, u63, u64, u65, u66, u67, u68, u69, u70, u71, u72, u73, u74, u75, u76, u77, u78, u79, u80, u81, u82, u83, u84, u85, u86, u87, u88, u89, u90, u91, u92, u93, u94, u95, u96, u97, u98, u99, u100, u101, u102, u103, u104, u105, u106, u107, u108, u109, u110, u111, u112, u113, u114, u115, u116, u117, u118, u119, u120, u121, u122, u123, u124, u125, u126, u127, u128, u129, u130, u131, u132, u133, u134, u135, u136, u137, u138, u139, u140, u141, u142, u143, u144, u145, u146, u147, u148, u149, u150, u151, u152, u153, u154, u155, u156, u157, u158, u159, u160, u161, u162, u163, u164, u165, u166, u167, u168, u169, u170, u171, u172, u173, u174, u175, u176, u177, u178, u179, u180, u181, u182, u183, u184, u185, u186, u187, u188, u189, u190, u191, u192, u193, u194, u195, u196, u197, u198, u199, u200, u201, u202, u203, u204, u205, u206, u207, u208, u209, u210, u211, u212, u213, u214, u215, u216, u217, u218, u219, u220, u221, u222, u223, u224, u225, u226, u227, u228, u229, u230, u231, u232, u233, u234, u235], []⟩ w')
    : Code.wp Try.prog pairsBody (Exit.then K Q) ⟨#[v0, (.slice At nt ct), (.int .i64 (k0 : Int)), (.bool anch), (.pointer (some ⟨b.P, 0, none⟩)), u5, u6, u7, (.pointer (some ⟨b.R, 0, none⟩)), u9, (.int .i64 (pl : Int)), (.slice (some ⟨b.M, 0, none⟩) wl wl), (.slice (some ⟨b.C, 0, none⟩) cl cl), (.int .i64 (s.steps : Int)), (.pointer (some ⟨b.S, 0, none⟩)), vb, u16, u17, u18, u19, u20, u21, u22, u23, u24, u25, u26, u27, u28, u29, u30, u31, u32, u33, u34, u35, u36, u37, u38, u39, u40, u41, u42, u43, u44, u45, u46, u47, u48, u49, u50, u51, u52, u53, u54, u55, u56, u57, u58, u59, u60, u61, u62, u63, u64, u65, u66, u67, u68, u69, u70, u71, u72, u73, u74, u75, u76, u77, u78, u79, u80, u81, u82, u83, u84, u85, u86, u87, u88, u89, u90, u91, u92, u93, u94, u95, u96, u97, u98, u99, u100, u101, u102, u103, u104, u105, u106, u107, u108, u109, u110, u111, u112, u113, u114, u115, u116, u117, u118, u119, u120, u121, u122, u123, u124, u125, u126, u127, u128, u129, u130, u131, u132, u133, u134, u135, u136, u137, u138, u139, u140, u141, u142, u143, u144, u145, u146, u147, u148, u149, u150, u151, u152, u153, u154, u155, u156, u157, u158, u159, u160, u161, u162, u163, u164, u165, u166, u167, u168, u169, u170, u171, u172, u173, u174, u175, u176, u177, u178, u179, u180, u181, u182, u183, u184, u185, u186, u187, u188, u189, u190, u191, u192, u193, u194, u195, u196, u197, u198, u199, u200, u201, u202, u203, u204, u205, u206, u207, u208, u209, u210, u211, u212, u213, u214, u215, u216, u217, u218, u219, u220, u221, u222, u223, u224, u225, u226, u227, u228, u229, u230, u231, u232, u233, u234, u235], []⟩ w := by
  have hs := h.stk
  rw [ht] at hs
  have H := Lib.hid h
  have HP := Lib.hid (pop_any w0.heap.size b.S V r (.pair i k) w (i : Int) (k : Int) 0 0 rfl hs (by omega))
  have HK := Lib.hid hK
  obtain ⟨x, hx, hx64, hxb⟩ := h.bits.at_ hq2
  have hmt := mask_test x (q % 64) hx64
  rw [hxb, hm] at hmt
  obtain ⟨y, hy⟩ : ∃ y, bits .and .u64 ((x : Int) / 2 ^ (q % 64)) 1 = y := ⟨_, rfl⟩
  rw [hy] at hmt
  have hms := mask_set x (q % 64) hx64 (by omega)
  have hxc : (ws.map fun x : Nat => Value.int .u64 (x : Int))[q / 64]? = some (.int .u64 (x : Int)) := by rw [List.getElem?_map, hx]; rfl
  have HXC := Lib.hid hxc
  have HX := Lib.hid hx
  have HQ := Lib.hid hq2
  have hql : q / 64 < ws.length := (List.getElem?_eq_some_iff.1 hx).1
  have hq6 : ((q / 64 : Nat) : Int) < (wl : Int) := by omega
  have hmul : 0 ≤ (i : Int) * (pl : Int) ∧ (i : Int) * (pl : Int) + (k : Int) - (k0 : Int) = (q : Int) := by
    have : (i : Int) * (pl : Int) = ((i * pl : Nat) : Int) := by norm_cast
    rw [this]; omega
  obtain ⟨hm1, hm2⟩ := hmul
  have hm3 : (i : Int) * (pl : Int) ≤ 16777216 := by omega
  have HRP := Lib.hid hP
  have hin : i < n := by have := hP.len; have := (List.getElem?_eq_some_iff.1 hv).1; omega
  have HV := Lib.hid hv
  obtain ⟨ab, ao, rfl, hab⟩ := hP.at_ (by omega)
  obtain ⟨⟨iop, ix, iy, iarg, irng⟩, iA, inn, ic⟩ := v
  obtain rfl : iop = 6 := hop
  clear h hs ht hK hxc hx hx64 hxb hq hm hwl hq2 hP hv
  conv => arg 2; whnf
  go_wp2_with (go_at_call 21; refine HP.out.mono ?_; rintro e w1 ⟨rfl, V1, hs1, hk1, _⟩; have H1 := Lib.hid (H.out.stacked hk1 hs1); have q1 : w1.cell? ⟨b.M, q / 64, none⟩ = some (.int .u64 (x : Int)) := (H1.out.met.cell (q / 64)).trans HXC.out; have q2 : w1.frozen? ⟨b.M, q / 64, none⟩ = false := H1.out.met.frozen (q / 64); have q3 : b.M < w1.heap.size := H1.out.met.lt; clear hs1 hk1; simp only [])
  go_region
  have hn := Lib.hid (((H1.out.marked HQ.out HX.out).later ((Below.refl _ _).alloc (Nat.le_refl _) (.cells #[.int .i64 (i : Int), .int .i64 (k : Int), .int .i64 0, .int .i64 0] 65))).drew)
  have hjb : Blk (((w1.setCell ⟨b.M, q / 64, none⟩ (.int .u64 ((x ||| 2 ^ (q % 64) : Nat) : Int))).alloc (.cells #[.int .i64 (i : Int), .int .i64 (k : Int), .int .i64 0, .int .i64 0] 65)).drew) w1.heap.size 65 [.int .i64 (i : Int), .int .i64 (k : Int), .int .i64 0, .int .i64 0] := by
    have := Blk.new (w1.setCell ⟨b.M, q / 64, none⟩ (.int .u64 ((x ||| 2 ^ (q % 64) : Nat) : Int))) 65 [.int .i64 (i : Int), .int .i64 (k : Int), .int .i64 0, .int .i64 0]
    rw [show (w1.setCell ⟨b.M, q / 64, none⟩ (.int .u64 ((x ||| 2 ^ (q % 64) : Nat) : Int))).heap.size = w1.heap.size from by simp [World.setCell]] at this
    exact this.drew
  clear q1 q2 q3 hms
  generalize ((w1.setCell ⟨b.M, q / 64, none⟩ (.int .u64 ((x ||| 2 ^ (q % 64) : Nat) : Int))).alloc (.cells #[.int .i64 (i : Int), .int .i64 (k : Int), .int .i64 0, .int .i64 0] 65)).drew = w2 at *
  have p0 : w2.cell? ⟨b.P, 0, none⟩ = some (.slice (some ⟨ab, ao, none⟩) n c) := hn.out.prog.cell 0
  have p1 : b.P < w2.heap.size := hn.out.prog.lt
  have j0 : w2.cell? ⟨w1.heap.size, 0, none⟩ = some (.int .i64 (i : Int)) := hjb.cell 0
  have j1 : w2.cell? ⟨w1.heap.size, 1, none⟩ = some (.int .i64 (k : Int)) := hjb.cell 1
  have j4 : w1.heap.size < w2.heap.size := hjb.lt
  have hrp2 := HRP.out.below hn.out.below
  have hab2 : ab < w2.heap.size := Nat.lt_of_lt_of_le hab hn.out.below.size
  obtain ⟨i0, i1, i2, i3, i4⟩ := hrp2.cells HV.out
  simp only [] at i0 i1 i2 i3 i4
  have HRP2 := Lib.hid hrp2
  have HJB := Lib.hid hjb
  have HNOT := Lib.hid (show ∀ g, w1.heap.size ≤ g → g ∉ (b.S :: V1.ownBlock.toList) from fun g hg hm => by
    simp only [List.mem_cons, Option.mem_toList] at hm
    rcases hm with e | e
    · obtain ⟨m, hb⟩ := H1.out.stk.blk
      have := hb.lt
      omega
    · have := (H1.out.stk.own.lt g e).2
      omega)
  clear hjb hrp2
  clear hmt
  go_wp2_with fail
  apply HK.out
  exact ⟨_, _, ((hn.out.later ((Below.refl _ _).alloc (Nat.le_refl _) (.cells #[.int .i64 6, .int .i64 ix, .int .i64 iy, .int .i64 iarg, .slice iA inn ic] 57))).counted (s.steps + 1) s.fin)⟩

end Go.Proofs.Ytclbbfkgdhmheaa
/- bitstate.Run: a round over a pair that is met now. -/
namespace Go.Proofs.Ytclbbfkgdhmheaa
open Go.RowKit Go.Proofs.Ytclbbfkgdhmheaa.Mach

set_option maxRecDepth 1000000 in
set_option maxHeartbeats 4000000 in
theorem round_alt {w0 : World} {b : Blocks} {A At : Option Addr} {n c nt ct k0 pl wl cl : Nat} {start caps : Int} {V : Value} {ws : List Nat} {s : MS} {w : World} {anch : Bool} {v0 vb : Value} {L : List InV} {t : List Int} {i k q : Nat} {r : List Job} {v : InV} (u5 u6 u7 u9 u16 u17 u18 u19 u20 u21 u22 u23 u24 u25 u26 u27 u28 u29 u30 u31 u32 u33 u34 u35 u36 u37 u38 u39 u40 u41 u42 u43 u44 u45 u46 u47 u48 u49 u50 u51 u52 u53 u54 u55 u56 u57 u58 u59 u60 u61 u62 u63 u64 u65 u66 u67 u68 u69 u70 u71 u72 u73 u74 u75 u76 u77 u78 u79 u80 u81 u82 u83 u84 u85 u86 u87 u88 u89 u90 u91 u92 u93 u94 u95 u96 u97 u98 u99 u100 u101 u102 u103 u104 u105 u106 u107 u108 u109 u110 u111 u112 u113 u114 u115 u116 u117 u118 u119 u120 u121 u122 u123 u124 u125 u126 u127 u128 u129 u130 u131 u132 u133 u134 u135 u136 u137 u138 u139 u140 u141 u142 u143 u144 u145 u146 u147 u148 u149 u150 u151 u152 u153 u154 u155 u156 u157 u158 u159 u160 u161 u162 u163 u164 u165 u166 u167 u168 u169 u170 u171 u172 u173 u174 u175 u176 u177 u178 u179 u180 u181 u182 u183 u184 u185 u186 u187 u188 u189 u190 u191 u192 u193 u194 u195 u196 u197 u198 u199 u200 u201 u202 u203 u204 u205 u206 u207 u208 u209 u210 u211 u212 u213 u214 u215 u216 u217 u218 u219 u220 u221 u222 u223 u224 u225 u226 u227 u228 u229 u230 u231 u232 u233 u234 u235 : Value) {K : Act → World → Prop} {Q : Exit → Act → World → Prop}
    (h : Rn w0 b A n c start caps V ws s w) (ht : s.todo = .pair i k :: r) (hroom : r.length ≤ 999999990) (hi : i ≤ 20000) (hk : k ≤ 4194304) (hk0 : k0 ≤ k) (hpl : pl ≤ 4194305) (hq : i * pl + (k - k0) = q) (hq2 : q < s.met.length) (hq3 : s.met.length ≤ 16777216) (hst : s.steps ≤ 16777216) (hwl : wl = ws.length) (hm : s.met.getD q true = false)
    (hP : ReadsP w0 w0.heap.size A n c L) (hv : L[i]? = some v)
    (hop : v.I.op = 2) (hix : 0 ≤ v.I.x) (hiy : 0 ≤ v.I.y)
    (hK : ∀ (u5 u6 u7 u9 u16 u17 u18 u19 u20 u21 u22 u23 u24 u25 u26 u27 u28 u29 u30 u31 u32 u33 u34 u35 u36 u37 u38 u39 u40 u41 u42 u43 u44 u45 u46 u47 u48 u49 u50 u51 u52 u53 u54 u55 u56 u57 u58 u59 u60 u61 u62 u63 u64 u65 u66 u67 u68 u69 u70 u71 u72 u73 u74 u75 u76 u77 u78 u79 u80 u81 u82 u83 u84 u85 u86 u87 u88 u89 u90 u91 u92 u93 u94 u95 u96 u97 u98 u99 u100 u101 u102 u103 u104 u105 u106 u107 u108 u109 u110 u111 u112 u113 u114 u115 u116 u117 u118 u119 u120 u121 u122 u123 u124 u125 u126 u127 u128 u129 u130 u131 u132 u133 u134 u135 u136 u137 u138 u139 u140 u141 u142 u143 u144 u145 u146 u147 u148 u149 u150 u151 u152 u153 u154 u155 u156 u157 u158 u159 u160 u161 u162 u163 u164 u165 u166 u167 u168 u169 u170 u171 u172 u173 u174 u175 u176 u177 u178 u179 u180 u181 u182 u183 u184 u185 u186 u187 u188 u189 u190 u191 u192 u193 u194 u195 u196 u197 u198 u199 u200 u201 u202 u203 u204 u205 u206 u207 u208 u209 u210 u211 u212 u213 u214 u215 u216 u217 u218 u219 u220 u221 u222 u223 u224 u225 u226 u227 u228 u229 u230 u231 u232 u233 u234 u235 : Value) (w' : World), (∃ V' ws', Rn w0 b A n c start caps V' ws' (eff t v.I k { s with todo := r, met := s.met.set q true, steps := s.steps + 1 }) w') → K ⟨#[v0, (.slice At nt ct), (.int .i64 (k0 : Int)), (.bool anch), (.pointer (some ⟨b.P, 0, none⟩)), u5, u6, u7, (.pointer (some ⟨b.R, 0, none⟩)), u9, (.int .i64 (pl : Int)), (.slice (some ⟨b.M, 0, none⟩) wl wl), (.slice (some ⟨b.C, 0, none⟩) cl cl), (.int .i64 ((s.steps : Int) + 1)), (.pointer (some ⟨b.S, 0, none⟩)), vb, u16, u17, u18, u19, u20, u21, u22, u23, u24, u25, u26, u27, u28, u29, u30, u31, u32, u33, u34, u35, u36, u37, u38, u39, u40, u41, u42, u43, u44, u45, u46, u47, u48, u49, u50, u51, u52, u53, u54, u55, u56, u57, u58, u59, u60, u61, u62, u63, u64, u65, u66, u67, u68, u69, u70, u71, u72, u73, u74, u75, u76, u77, u78, u79, u80, u81, u82, u83, u84, u85, u86, u87, u88, u89, u90, u91, u92, u93, u94, u95, u96, u97, u98, u99, u100, u101, u102, u103, u104, u105, u106, u107, u108, u109, u110, u111, u112, u113, u114, u115, u116, u117, u118, u119, u120, u121, u122, u123, u124, u125, u126, u127, u128, u129, u130, u131, u132, u133, u134, u135, u136, u137, u138, u139, u140, u141, u142, u143, u144, u145, u146, u147, u148, u149, u150, u151, u152, u153, u154, u155, u156, u157, u158, u159, u160, u161, u162, u163, u164, u165, u166, u167, u168, u169, u170, u171, u172, u173, u174, u175, u176, u177, u178, u179, u180, u181, u182, u183, u184, u185, u186, u187, u188, u189, u190, u191, u192, u193, u194, u195, u196, u197, u198, u199, u200, u201, u202, u203, u204, u205, u206, u207, u208, u209, u210, u211, u212, u213, u214, u215, u216, u217, u218, u219, u220, u221, u222, u223, u224, u225, u226, u227, u228, u229, u230, u231, u232, u233, u234, u235], []⟩ w')
    : Code.wp Try.prog pairsBody (Exit.then K Q) ⟨#[v0, (.slice At nt ct), (.int .i64 (k0 : Int)), (.bool anch), (.pointer (some ⟨b.P, 0, none⟩)), u5, u6, u7, (.pointer (some ⟨b.R, 0, none⟩)), u9, (.int .i64 (pl : Int)), (.slice (some ⟨b.M, 0, none⟩) wl wl), (.slice (some ⟨b.C, 0, none⟩) cl cl), (.int .i64 (s.steps : Int)), (.pointer (some ⟨b.S, 0, none⟩)), vb, u16, u17, u18, u19, u20, u21, u22, u23, u24, u25, u26, u27, u28, u29, u30, u31, u32, u33, u34, u35, u36, u37, u38, u39, u40, u41, u42, u43, u44, u45, u46, u47, u48, u49, u50, u51, u52, u53, u54, u55, u56, u57, u58, u59, u60, u61, u62, u63, u64, u65, u66, u67, u68, u69, u70, u71, u72, u73, u74, u75, u76, u77, u78, u79, u80, u81, u82, u83, u84, u85, u86, u87, u88, u89, u90, u91, u92, u93, u94, u95, u96, u97, u98, u99, u100, u101, u102, u103, u104, u105, u106, u107, u108, u109, u110, u111, u112, u113, u114, u115, u116, u117, u118, u119, u120, u121, u122, u123, u124, u125, u126, u127, u128, u129, u130, u131, u132, u133, u134, u135, u136, u137, u138, u139, u140, u141, u142, u143, u144, u145, u146, u147, u148, u149, u150, u151, u152, u153, u154, u155, u156, u157, u158, u159, u160, u161, u162, u163, u164, u165, u166, u167, u168, u169, u170, u171, u172, u173, u174, u175, u176, u177, u178, u179, u180, u181, u182, u183, u184, u185, u186, u187, u188, u189, u190, u191, u192, u193, u194, u195, u196, u197, u198, u199, u200, u201, u202, u203, u204, u205, u206, u207, u208, u209, u210, u211, u212, u213, u214, u215, u216, u217, u218, u219, u220, u221, u222, u223, u224, u225, u226, u227, u228, u229, u230, u231, u232, u233, u234, u235], []⟩ w := by
  have hs := h.stk
  rw [ht] at hs
  have H := Lib.hid h
  have HP := Lib.hid (pop_any w0.heap.size b.S V r (.pair i k) w (i : Int) (k : Int) 0 0 rfl hs (by omega))
  have HK := Lib.hid hK
  obtain ⟨x, hx, hx64, hxb⟩ := h.bits.at_ hq2
  have hmt := mask_test x (q % 64) hx64
  rw [hxb, hm] at hmt
  obtain ⟨y, hy⟩ : ∃ y, bits .and .u64 ((x : Int) / 2 ^ (q % 64)) 1 = y := ⟨_, rfl⟩
  rw [hy] at hmt
  have hms := mask_set x (q % 64) hx64 (by omega)
  have hxc : (ws.map fun x : Nat => Value.int .u64 (x : Int))[q / 64]? = some (.int .u64 (x : Int)) := by rw [List.getElem?_map, hx]; rfl
  have HXC := Lib.hid hxc
  have HX := Lib.hid hx
  have HQ := Lib.hid hq2
  have hql : q / 64 < ws.length := (List.getElem?_eq_some_iff.1 hx).1
  have hq6 : ((q / 64 : Nat) : Int) < (wl : Int) := by omega
  have hmul : 0 ≤ (i : Int) * (pl : Int) ∧ (i : Int) * (pl : Int) + (k : Int) - (k0 : Int) = (q : Int) := by
    have : (i : Int) * (pl : Int) = ((i * pl : Nat) : Int) := by norm_cast
    rw [this]; omega
  obtain ⟨hm1, hm2⟩ := hmul
  have hm3 : (i : Int) * (pl : Int) ≤ 16777216 := by omega
  have HRP := Lib.hid hP
  have hin : i < n := by have := hP.len; have := (List.getElem?_eq_some_iff.1 hv).1; omega
  have HV := Lib.hid hv
  obtain ⟨ab, ao, rfl, hab⟩ := hP.at_ (by omega)
  obtain ⟨⟨iop, ix, iy, iarg, irng⟩, iA, inn, ic⟩ := v
  obtain rfl : iop = 2 := hop
  simp only [] at hix hiy
  clear h hs ht hK hxc hx hx64 hxb hq hm hwl hq2 hP hv
  conv => arg 2; whnf
  go_wp2_with (go_at_call 21; refine HP.out.mono ?_; rintro e w1 ⟨rfl, V1, hs1, hk1, _⟩; have H1 := Lib.hid (H.out.stacked hk1 hs1); have q1 : w1.cell? ⟨b.M, q / 64, none⟩ = some (.int .u64 (x : Int)) := (H1.out.met.cell (q / 64)).trans HXC.out; have q2 : w1.frozen? ⟨b.M, q / 64, none⟩ = false := H1.out.met.frozen (q / 64); have q3 : b.M < w1.heap.size := H1.out.met.lt; clear hs1 hk1; simp only [])
  go_region
  have hn := Lib.hid (((H1.out.marked HQ.out HX.out).later ((Below.refl _ _).alloc (Nat.le_refl _) (.cells #[.int .i64 (i : Int), .int .i64 (k : Int), .int .i64 0, .int .i64 0] 65))).drew)
  have hjb : Blk (((w1.setCell ⟨b.M, q / 64, none⟩ (.int .u64 ((x ||| 2 ^ (q % 64) : Nat) : Int))).alloc (.cells #[.int .i64 (i : Int), .int .i64 (k : Int), .int .i64 0, .int .i64 0] 65)).drew) w1.heap.size 65 [.int .i64 (i : Int), .int .i64 (k : Int), .int .i64 0, .int .i64 0] := by
    have := Blk.new (w1.setCell ⟨b.M, q / 64, none⟩ (.int .u64 ((x ||| 2 ^ (q % 64) : Nat) : Int))) 65 [.int .i64 (i : Int), .int .i64 (k : Int), .int .i64 0, .int .i64 0]
    rw [show (w1.setCell ⟨b.M, q / 64, none⟩ (.int .u64 ((x ||| 2 ^ (q % 64) : Nat) : Int))).heap.size = w1.heap.size from by simp [World.setCell]] at this
    exact this.drew
  clear q1 q2 q3 hms
  generalize ((w1.setCell ⟨b.M, q / 64, none⟩ (.int .u64 ((x ||| 2 ^ (q % 64) : Nat) : Int))).alloc (.cells #[.int .i64 (i : Int), .int .i64 (k : Int), .int .i64 0, .int .i64 0] 65)).drew = w2 at *
  have p0 : w2.cell? ⟨b.P, 0, none⟩ = some (.slice (some ⟨ab, ao, none⟩) n c) := hn.out.prog.cell 0
  have p1 : b.P < w2.heap.size := hn.out.prog.lt
  have j0 : w2.cell? ⟨w1.heap.size, 0, none⟩ = some (.int .i64 (i : Int)) := hjb.cell 0
  have j1 : w2.cell? ⟨w1.heap.size, 1, none⟩ = some (.int .i64 (k : Int)) := hjb.cell 1
  have j4 : w1.heap.size < w2.heap.size := hjb.lt
  have hrp2 := HRP.out.below hn.out.below
  have hab2 : ab < w2.heap.size := Nat.lt_of_lt_of_le hab hn.out.below.size
  obtain ⟨i0, i1, i2, i3, i4⟩ := hrp2.cells HV.out
  simp only [] at i0 i1 i2 i3 i4
  have HRP2 := Lib.hid hrp2
  have HJB := Lib.hid hjb
  have HNOT := Lib.hid (show ∀ g, w1.heap.size ≤ g → g ∉ (b.S :: V1.ownBlock.toList) from fun g hg hm => by
    simp only [List.mem_cons, Option.mem_toList] at hm
    rcases hm with e | e
    · obtain ⟨m, hb⟩ := H1.out.stk.blk
      have := hb.lt
      omega
    · have := (H1.out.stk.own.lt g e).2
      omega)
  clear hjb hrp2
  have HPU := Lib.hid (fun u (hb : Below w2.heap.size w2 u) => push_any w0.heap.size b.S V1 r (.pair iy.toNat k) u iy (k : Int) 0 0 (by simp [jobVals]; omega) (hn.out.later hb).stk hn.out.lo.S (by omega))
  have HPU2 := Lib.hid (fun V2 u (hb : Stk u w0.heap.size b.S V2 (.pair iy.toNat k :: r)) => push_any w0.heap.size b.S V2 (.pair iy.toNat k :: r) (.pair ix.toNat k) u ix (k : Int) 0 0 (by simp [jobVals]; omega) hb hn.out.lo.S (by simp; omega))
  clear hmt
  have hbi : Below w2.heap.size w2 (w2.alloc (.cells #[.int .i64 2, .int .i64 ix, .int .i64 iy, .int .i64 iarg, .slice iA inn ic] 57)) := (Below.refl _ _).alloc (Nat.le_refl _) _
  have HNEW := Lib.hid (Blk.new w2 57 [.int .i64 2, .int .i64 ix, .int .i64 iy, .int .i64 iarg, .slice iA inn ic])
  go_wp2_with (first | (go_at_call 20; refine (HPU2.out V2 _ H3.out.stk).mono ?_; rintro e w4 ⟨rfl, V3, hs3, hk3, _⟩; have H4 := Lib.hid (H3.out.stacked hk3 hs3); clear hs3 hk3; simp only []) | (go_at_call 20; refine (HPU.out _ hbi).mono ?_; rintro e w3 ⟨rfl, V2, hs2, hk2, _⟩; have H3 := Lib.hid ((hn.out.later hbi).stacked hk2 hs2); have B1 := (HJB.out.below hbi j4).kept hk2 (HNOT.out _ (Nat.le_refl _)); have B2 := HNEW.out.kept hk2 (HNOT.out _ (Nat.le_of_lt j4)); have d1 : w3.cell? ⟨w1.heap.size, 1, none⟩ = some (.int .i64 (k : Int)) := B1.cell 1; have d2 : w3.cell? ⟨w2.heap.size, 1, none⟩ = some (.int .i64 ix) := B2.cell 1; clear hs2 hk2 B1 B2; simp only []))
  apply HK.out
  exact ⟨_, _, (H4.out.counted (s.steps + 1) s.fin)⟩

end Go.Proofs.Ytclbbfkgdhmheaa
/- bitstate.Run: a round over a pair that is met now. -/
namespace Go.Proofs.Ytclbbfkgdhmheaa
open Go.RowKit Go.Proofs.Ytclbbfkgdhmheaa.Mach

theorem notin_push {S B g : Nat} {V V2 : Value} (h : g ∉ (S :: V.ownBlock.toList)) (ho : V2.ownBlock = V.ownBlock ∨ ∃ k, B ≤ k ∧ V2.ownBlock = some k) (hg : g < B) : g ∉ (S :: V2.ownBlock.toList) := by
  rcases ho with e | ⟨k, hk, e⟩
  · rw [e]; exact h
  · rw [e]
    intro hm
    simp only [Option.toList_some, List.mem_cons, List.not_mem_nil, or_false] at hm
    rcases hm with rfl | rfl
    · exact h List.mem_cons_self
    · omega

set_option maxRecDepth 1000000 in
set_option maxHeartbeats 4000000 in
theorem round_cap {w0 : World} {b : Blocks} {A At : Option Addr} {n c nt ct k0 pl wl cl : Nat} {start caps : Int} {V : Value} {ws : List Nat} {s : MS} {w : World} {anch : Bool} {v0 vb : Value} {L : List InV} {t : List Int} {i k q : Nat} {r : List Job} {v : InV} (u5 u6 u7 u9 u16 u17 u18 u19 u20 u21 u22 u23 u24 u25 u26 u27 u28 u29 u30 u31 u32 u33 u34 u35 u36 u37 u38 u39 u40 u41 u42 u43 u44 u45 u46 u47 u48 u49 u50 u51 u52 u53 u54 u55 u56 u57 u58 u59 u60 u61 u62 u63 u64 u65 u66 u67 u68 u69 u70 u71 u72 u73 u74 u75 u76 u77 u78 u79 u80 u81 u82 u83 u84 u85 u86 u87 u88 u89 u90 u91 u92 u93 u94 u95 u96 u97 u98 u99 u100 u101 u102 u103 u104 u105 u106 u107 u108 u109 u110 u111 u112 u113 u114 u115 u116 u117 u118 u119 u120 u121 u122 u123 u124 u125 u126 u127 u128 u129 u130 u131 u132 u133 u134 u135 u136 u137 u138 u139 u140 u141 u142 u143 u144 u145 u146 u147 u148 u149 u150 u151 u152 u153 u154 u155 u156 u157 u158 u159 u160 u161 u162 u163 u164 u165 u166 u167 u168 u169 u170 u171 u172 u173 u174 u175 u176 u177 u178 u179 u180 u181 u182 u183 u184 u185 u186 u187 u188 u189 u190 u191 u192 u193 u194 u195 u196 u197 u198 u199 u200 u201 u202 u203 u204 u205 u206 u207 u208 u209 u210 u211 u212 u213 u214 u215 u216 u217 u218 u219 u220 u221 u222 u223 u224 u225 u226 u227 u228 u229 u230 u231 u232 u233 u234 u235 : Value) {K : Act → World → Prop} {Q : Exit → Act → World → Prop}
    (h : Rn w0 b A n c start caps V ws s w) (ht : s.todo = .pair i k :: r) (hroom : r.length ≤ 999999990) (hi : i ≤ 20000) (hk : k ≤ 4194304) (hk0 : k0 ≤ k) (hpl : pl ≤ 4194305) (hq : i * pl + (k - k0) = q) (hq2 : q < s.met.length) (hq3 : s.met.length ≤ 16777216) (hst : s.steps ≤ 16777216) (hwl : wl = ws.length) (hm : s.met.getD q true = false)
    (hP : ReadsP w0 w0.heap.size A n c L) (hv : L[i]? = some v)
    (hop : v.I.op = 3) (hix : 0 ≤ v.I.x) (harg0 : 0 ≤ v.I.arg) (harg : v.I.arg.toNat < s.caps.length) (hcl : cl = s.caps.length) (hcap : cl ≤ 1002)
    (hK : ∀ (u5 u6 u7 u9 u16 u17 u18 u19 u20 u21 u22 u23 u24 u25 u26 u27 u28 u29 u30 u31 u32 u33 u34 u35 u36 u37 u38 u39 u40 u41 u42 u43 u44 u45 u46 u47 u48 u49 u50 u51 u52 u53 u54 u55 u56 u57 u58 u59 u60 u61 u62 u63 u64 u65 u66 u67 u68 u69 u70 u71 u72 u73 u74 u75 u76 u77 u78 u79 u80 u81 u82 u83 u84 u85 u86 u87 u88 u89 u90 u91 u92 u93 u94 u95 u96 u97 u98 u99 u100 u101 u102 u103 u104 u105 u106 u107 u108 u109 u110 u111 u112 u113 u114 u115 u116 u117 u118 u119 u120 u121 u122 u123 u124 u125 u126 u127 u128 u129 u130 u131 u132 u133 u134 u135 u136 u137 u138 u139 u140 u141 u142 u143 u144 u145 u146 u147 u148 u149 u150 u151 u152 u153 u154 u155 u156 u157 u158 u159 u160 u161 u162 u163 u164 u165 u166 u167 u168 u169 u170 u171 u172 u173 u174 u175 u176 u177 u178 u179 u180 u181 u182 u183 u184 u185 u186 u187 u188 u189 u190 u191 u192 u193 u194 u195 u196 u197 u198 u199 u200 u201 u202 u203 u204 u205 u206 u207 u208 u209 u210 u211 u212 u213 u214 u215 u216 u217 u218 u219 u220 u221 u222 u223 u224 u225 u226 u227 u228 u229 u230 u231 u232 u233 u234 u235 : Value) (w' : World), (∃ V' ws', Rn w0 b A n c start caps V' ws' (eff t v.I k { s with todo := r, met := s.met.set q true, steps := s.steps + 1 }) w') → K ⟨#[v0, (.slice At nt ct), (.int .i64 (k0 : Int)), (.bool anch), (.pointer (some ⟨b.P, 0, none⟩)), u5, u6, u7, (.pointer (some ⟨b.R, 0, none⟩)), u9, (.int .i64 (pl : Int)), (.slice (some ⟨b.M, 0, none⟩) wl wl), (.slice (some ⟨b.C, 0, none⟩) cl cl), (.int .i64 ((s.steps : Int) + 1)), (.pointer (some ⟨b.S, 0, none⟩)), vb, u16, u17, u18, u19, u20, u21, u22, u23, u24, u25, u26, u27, u28, u29, u30, u31, u32, u33, u34, u35, u36, u37, u38, u39, u40, u41, u42, u43, u44, u45, u46, u47, u48, u49, u50, u51, u52, u53, u54, u55, u56, u57, u58, u59, u60, u61, u62, u63, u64, u65, u66, u67, u68, u69, u70, u71, u72, u73, u74, u75, u76, u77, u78, u79, u80, u81, u82, u83, u84, u85, u86, u87, u88, u89, u90, u91, u92, u93, u94, u95, u96, u97, u98, u99, u100, u101, u102, u103, u104, u105, u106, u107, u108, u109, u110, u111, u112, u113, u114, u115, u116, u117, u118, u119, u120, u121, u122, u123, u124, u125, u126, u127, u128, u129, u130, u131, u132, u133, u134, u135, u136, u137, u138, u139, u140, u141, u142, u143, u144, u145, u146, u147, u148, u149, u150, u151, u152, u153, u154, u155, u156, u157, u158, u159, u160, u161, u162, u163, u164, u165, u166, u167, u168, u169, u170, u171, u172, u173, u174, u175, u176, u177, u178, u179, u180, u181, u182, u183, u184, u185, u186, u187, u188, u189, u190, u191, u192, u193, u194, u195, u196, u197, u198, u199, u200, u201, u202, u203, u204, u205, u206, u207, u208, u209, u210, u211, u212, u213, u214, u215, u216, u217, u218, u219, u220, u221, u222, u223, u224, u225, u226, u227, u228, u229, u230, u231, u232, u233, u234, u235], []⟩ w')
    : Code.wp Try.prog pairsBody (Exit.then K Q) ⟨#[v0, (.slice At nt ct), (.int .i64 (k0 : Int)), (.bool anch), (.pointer (some ⟨b.P, 0, none⟩)), u5, u6, u7, (.pointer (some ⟨b.R, 0, none⟩)), u9, (.int .i64 (pl : Int)), (.slice (some ⟨b.M, 0, none⟩) wl wl), (.slice (some ⟨b.C, 0, none⟩) cl cl), (.int .i64 (s.steps : Int)), (.pointer (some ⟨b.S, 0, none⟩)), vb, u16, u17, u18, u19, u20, u21, u22, u23, u24, u25, u26, u27, u28, u29, u30, u31, u32, u33, u34, u35, u36, u37, u38, u39, u40, u41, u42, u43, u44, u45, u46, u47, u48, u49, u50, u51, u52, u53, u54, u55, u56, u57, u58, u59, u60, u61, u62, u63, u64, u65, u66, u67, u68, u69, u70, u71, u72, u73, u74, u75, u76, u77, u78, u79, u80, u81, u82, u83, u84, u85, u86, u87, u88, u89, u90, u91, u92, u93, u94, u95, u96, u97, u98, u99, u100, u101, u102, u103, u104, u105, u106, u107, u108, u109, u110, u111, u112, u113, u114, u115, u116, u117, u118, u119, u120, u121, u122, u123, u124, u125, u126, u127, u128, u129, u130, u131, u132, u133, u134, u135, u136, u137, u138, u139, u140, u141, u142, u143, u144, u145, u146, u147, u148, u149, u150, u151, u152, u153, u154, u155, u156, u157, u158, u159, u160, u161, u162, u163, u164, u165, u166, u167, u168, u169, u170, u171, u172, u173, u174, u175, u176, u177, u178, u179, u180, u181, u182, u183, u184, u185, u186, u187, u188, u189, u190, u191, u192, u193, u194, u195, u196, u197, u198, u199, u200, u201, u202, u203, u204, u205, u206, u207, u208, u209, u210, u211, u212, u213, u214, u215, u216, u217, u218, u219, u220, u221, u222, u223, u224, u225, u226, u227, u228, u229, u230, u231, u232, u233, u234, u235], []⟩ w := by
  have hs := h.stk
  rw [ht] at hs
  have H := Lib.hid h
  have HP := Lib.hid (pop_any w0.heap.size b.S V r (.pair i k) w (i : Int) (k : Int) 0 0 rfl hs (by omega))
  have HK := Lib.hid hK
  obtain ⟨x, hx, hx64, hxb⟩ := h.bits.at_ hq2
  have hmt := mask_test x (q % 64) hx64
  rw [hxb, hm] at hmt
  obtain ⟨y, hy⟩ : ∃ y, bits .and .u64 ((x : Int) / 2 ^ (q % 64)) 1 = y := ⟨_, rfl⟩
  rw [hy] at hmt
  have hms := mask_set x (q % 64) hx64 (by omega)
  have hxc : (ws.map fun x : Nat => Value.int .u64 (x : Int))[q / 64]? = some (.int .u64 (x : Int)) := by rw [List.getElem?_map, hx]; rfl
  have HXC := Lib.hid hxc
  have HX := Lib.hid hx
  have HQ := Lib.hid hq2
  have hql : q / 64 < ws.length := (List.getElem?_eq_some_iff.1 hx).1
  have hq6 : ((q / 64 : Nat) : Int) < (wl : Int) := by omega
  have hmul : 0 ≤ (i : Int) * (pl : Int) ∧ (i : Int) * (pl : Int) + (k : Int) - (k0 : Int) = (q : Int) := by
    have : (i : Int) * (pl : Int) = ((i * pl : Nat) : Int) := by norm_cast
    rw [this]; omega
  obtain ⟨hm1, hm2⟩ := hmul
  have hm3 : (i : Int) * (pl : Int) ≤ 16777216 := by omega
  have HRP := Lib.hid hP
  have hin : i < n := by have := hP.len; have := (List.getElem?_eq_some_iff.1 hv).1; omega
  have HV := Lib.hid hv
  obtain ⟨ab, ao, rfl, hab⟩ := hP.at_ (by omega)
  obtain ⟨⟨iop, ix, iy, iarg, irng⟩, iA, inn, ic⟩ := v
  obtain rfl : iop = 3 := hop
  simp only [] at hix harg0 harg
  obtain ⟨ca, rfl⟩ : ∃ ca : Nat, iarg = (ca : Int) := ⟨iarg.toNat, by omega⟩
  rw [Int.toNat_natCast] at harg
  obtain ⟨z, hz⟩ : ∃ z, s.caps[ca]? = some z := ⟨_, List.getElem?_eq_getElem harg⟩
  have hcal : (ca : Int) < (cl : Int) := by omega
  have hcz : (s.caps.map (Value.int .i64))[ca]? = some (.int .i64 z) := by rw [List.getElem?_map, hz]; rfl
  have HZ := Lib.hid hz
  have HCZ := Lib.hid hcz
  clear hz hcz harg hcl harg0
  clear h hs ht hK hxc hx hx64 hxb hq hm hwl hq2 hP hv
  conv => arg 2; whnf
  go_wp2_with (go_at_call 21; refine HP.out.mono ?_; rintro e w1 ⟨rfl, V1, hs1, hk1, _⟩; have H1 := Lib.hid (H.out.stacked hk1 hs1); have q1 : w1.cell? ⟨b.M, q / 64, none⟩ = some (.int .u64 (x : Int)) := (H1.out.met.cell (q / 64)).trans HXC.out; have q2 : w1.frozen? ⟨b.M, q / 64, none⟩ = false := H1.out.met.frozen (q / 64); have q3 : b.M < w1.heap.size := H1.out.met.lt; clear hs1 hk1; simp only [])
  go_region
  have hn := Lib.hid (((H1.out.marked HQ.out HX.out).later ((Below.refl _ _).alloc (Nat.le_refl _) (.cells #[.int .i64 (i : Int), .int .i64 (k : Int), .int .i64 0, .int .i64 0] 65))).drew)
  have hjb : Blk (((w1.setCell ⟨b.M, q / 64, none⟩ (.int .u64 ((x ||| 2 ^ (q % 64) : Nat) : Int))).alloc (.cells #[.int .i64 (i : Int), .int .i64 (k : Int), .int .i64 0, .int .i64 0] 65)).drew) w1.heap.size 65 [.int .i64 (i : Int), .int .i64 (k : Int), .int .i64 0, .int .i64 0] := by
    have := Blk.new (w1.setCell ⟨b.M, q / 64, none⟩ (.int .u64 ((x ||| 2 ^ (q % 64) : Nat) : Int))) 65 [.int .i64 (i : Int), .int .i64 (k : Int), .int .i64 0, .int .i64 0]
    rw [show (w1.setCell ⟨b.M, q / 64, none⟩ (.int .u64 ((x ||| 2 ^ (q % 64) : Nat) : Int))).heap.size = w1.heap.size from by simp [World.setCell]] at this
    exact this.drew
  clear q1 q2 q3 hms
  generalize ((w1.setCell ⟨b.M, q / 64, none⟩ (.int .u64 ((x ||| 2 ^ (q % 64) : Nat) : Int))).alloc (.cells #[.int .i64 (i : Int), .int .i64 (k : Int), .int .i64 0, .int .i64 0] 65)).drew = w2 at *
  have p0 : w2.cell? ⟨b.P, 0, none⟩ = some (.slice (some ⟨ab, ao, none⟩) n c) := hn.out.prog.cell 0
  have p1 : b.P < w2.heap.size := hn.out.prog.lt
  have j0 : w2.cell? ⟨w1.heap.size, 0, none⟩ = some (.int .i64 (i : Int)) := hjb.cell 0
  have j1 : w2.cell? ⟨w1.heap.size, 1, none⟩ = some (.int .i64 (k : Int)) := hjb.cell 1
  have j4 : w1.heap.size < w2.heap.size := hjb.lt
  have hrp2 := HRP.out.below hn.out.below
  have hab2 : ab < w2.heap.size := Nat.lt_of_lt_of_le hab hn.out.below.size
  obtain ⟨i0, i1, i2, i3, i4⟩ := hrp2.cells HV.out
  simp only [] at i0 i1 i2 i3 i4
  have HRP2 := Lib.hid hrp2
  have HJB := Lib.hid hjb
  have HNOT := Lib.hid (show ∀ g, w1.heap.size ≤ g → g ∉ (b.S :: V1.ownBlock.toList) from fun g hg hm => by
    simp only [List.mem_cons, Option.mem_toList] at hm
    rcases hm with e | e
    · obtain ⟨m, hb⟩ := H1.out.stk.blk
      have := hb.lt
      omega
    · have := (H1.out.stk.own.lt g e).2
      omega)
  clear hjb hrp2
  have HPU := Lib.hid (fun u (hb : Below w2.heap.size w2 u) => push_any w0.heap.size b.S V1 r (.back ca z) u 0 0 ((ca : Int) + 1) z (by simp [jobVals]) (hn.out.later hb).stk hn.out.lo.S (by omega))
  have HPU2 := Lib.hid (fun V2 u (hb : Stk u w0.heap.size b.S V2 (.back ca z :: r)) => push_any w0.heap.size b.S V2 (.back ca z :: r) (.pair ix.toNat k) u ix (k : Int) 0 0 (by simp [jobVals]; omega) hb hn.out.lo.S (by simp; omega))
  clear hmt
  have hbi : Below w2.heap.size w2 (w2.alloc (.cells #[.int .i64 3, .int .i64 ix, .int .i64 iy, .int .i64 (ca : Int), .slice iA inn ic] 57)).drew := bdrewN ((Below.refl _ _).alloc (Nat.le_refl _) _) 1
  have HNEW := Lib.hid (Blk.new w2 57 [.int .i64 3, .int .i64 ix, .int .i64 iy, .int .i64 (ca : Int), .slice iA inn ic])
  go_wp2_with fail
  have e1 : (w2.alloc (.cells #[.int .i64 3, .int .i64 ix, .int .i64 iy, .int .i64 (ca : Int), .slice iA inn ic] 57)).cell? ⟨b.C, ca, none⟩ = some (.int .i64 z) := ((hn.out.capt.alloc _).cell ca).trans HCZ.out
  have e2 : (w2.alloc (.cells #[.int .i64 3, .int .i64 ix, .int .i64 iy, .int .i64 (ca : Int), .slice iA inn ic] 57)).cell? ⟨w2.heap.size, 3, none⟩ = some (.int .i64 (ca : Int)) := HNEW.out.cell 3
  have e3 : (w2.alloc (.cells #[.int .i64 3, .int .i64 ix, .int .i64 iy, .int .i64 (ca : Int), .slice iA inn ic] 57)).cell? ⟨w2.heap.size, 1, none⟩ = some (.int .i64 ix) := HNEW.out.cell 1
  have e4 : (w2.alloc (.cells #[.int .i64 3, .int .i64 ix, .int .i64 iy, .int .i64 (ca : Int), .slice iA inn ic] 57)).cell? ⟨w1.heap.size, 1, none⟩ = some (.int .i64 (k : Int)) := (HJB.out.alloc _).cell 1
  have HNEW2 := Lib.hid HNEW.out.drew
  have HJB2 := Lib.hid (HJB.out.alloc (.cells #[.int .i64 3, .int .i64 ix, .int .i64 iy, .int .i64 (ca : Int), .slice iA inn ic] 57)).drew
  have HL2 := Lib.hid HNEW2.out.lt
  have HL1 := Lib.hid HJB2.out.lt
  clear HNEW
  generalize w2.alloc (.cells #[.int .i64 3, .int .i64 ix, .int .i64 iy, .int .i64 (ca : Int), .slice iA inn ic] 57) = w2a at *
  refine wp_region_still_tail 9 (by kernel_rfl) (by kernel_rfl) ?_
  simp only [List.take_succ_cons, List.take_zero, List.drop_succ_cons, List.drop_zero]
  change wpStill _ _ w2a.drew _ _ _
  repeat still_step
  refine wpStill_nil ?_
  change wpList _ _ _ _ _ w2a.drew
  go_wp2_with (first | (go_at_call 20; refine (HPU2.out V2 _ H3.out.stk).mono ?_; rintro e w4 ⟨rfl, V3, hs3, hk3, _⟩; have H4 := Lib.hid (H3.out.stacked hk3 hs3); have c1 : w4.cell? ⟨w1.heap.size, 1, none⟩ = some (.int .i64 (k : Int)) := (HB1.out.kept hk3 (HN3.out _ (Nat.le_refl _) HL1.out)).cell 1; have c2 : w4.cell? ⟨w2.heap.size, 3, none⟩ = some (.int .i64 (ca : Int)) := (HB2.out.kept hk3 (HN3.out _ (Nat.le_of_lt j4) HL2.out)).cell 3; have c3 : w4.cell? ⟨b.C, ca, none⟩ = some (.int .i64 z) := (H4.out.capt.cell ca).trans HCZ.out; have c4 : w4.frozen? ⟨b.C, ca, none⟩ = false := H4.out.capt.frozen ca; have c5 : b.C < w4.heap.size := H4.out.capt.lt; clear hs3 hk3; simp only []) | (go_at_call 20; refine (HPU.out _ hbi).mono ?_; rintro e w3 ⟨rfl, V2, hs2, hk2, ho2⟩; have HN3 := Lib.hid (show ∀ g, w1.heap.size ≤ g → g < w2a.drew.heap.size → g ∉ (b.S :: V2.ownBlock.toList) from fun g h1 h2 => notin_push (HNOT.out g h1) ho2 h2); have H3 := Lib.hid ((hn.out.later hbi).stacked hk2 hs2); have B1 := HJB2.out.kept hk2 (HNOT.out _ (Nat.le_refl _)); have B2 := HNEW2.out.kept hk2 (HNOT.out _ (Nat.le_of_lt j4)); have d1 : w3.cell? ⟨w1.heap.size, 1, none⟩ = some (.int .i64 (k : Int)) := B1.cell 1; have d2 : w3.cell? ⟨w2.heap.size, 1, none⟩ = some (.int .i64 ix) := B2.cell 1; have HB1 := Lib.hid B1; have HB2 := Lib.hid B2; clear hs2 hk2 B1 B2 ho2; simp only []))
  apply HK.out
  have hzz : z = s.caps.getD ca 0 := by rw [List.getD_eq_getElem?_getD, HZ.out]; rfl
  subst hzz
  exact ⟨_, _, ((H4.out.captured ca (k : Int)).counted (s.steps + 1) s.fin)⟩

end Go.Proofs.Ytclbbfkgdhmheaa
