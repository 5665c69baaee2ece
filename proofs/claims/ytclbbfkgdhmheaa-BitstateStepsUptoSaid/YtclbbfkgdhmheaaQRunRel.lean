/- bitstate.Run: what stands in memory. -/
import Derived.Test.YtclbbfkgdhmheaaQMemB
import Derived.Test.YtclbbfkgdhmheaaQRes
import Derived.Test.YtclbbfkgdhmheaaQLook
import Derived.Test.YtclbbfkgdhmheaaQHas
import Derived.Deep.LoopGhost
import Derived.BigQuiet
import Derived.Deep.QuietTactic
import Derived.WalkLawsBesides
namespace Go.Proofs.Ytclbbfkgdhmheaa
open Go.RowKit Go.Proofs.Ytclbbfkgdhmheaa.Mach

/-- The blocks of a run: the program's box, what is found, the map, the captures, the stack. -/
structure Blocks where
  P : Nat
  R : Nat
  M : Nat
  C : Nat
  S : Nat
structure Blocks.From (b : Blocks) (B : Nat) : Prop where
  P : B ≤ b.P
  R : B ≤ b.R
  M : B ≤ b.M
  C : B ≤ b.C
  S : B ≤ b.S
/-- What stands in memory when the machine stands at s. -/
structure Rn (w0 : World) (b : Blocks) (A : Option Addr) (n c : Nat) (start caps : Int) (V : Value) (ws : List Nat) (s : MS) (w : World) : Prop where
  below : Below w0.heap.size w0 w
  lo : b.From w0.heap.size
  prog : Blk w b.P 28 [.slice A n c, .int .i64 start, .int .i64 caps]
  found : Blk w b.R 38 [.bool false, .slice none 0 0, .int .i64 0, .int .i64 0]
  met : Blk w b.M 68 (ws.map fun x : Nat => .int .u64 (x : Int))
  bits : Bits ws s.met
  capt : Blk w b.C 3 (s.caps.map (Value.int .i64))
  stk : Stk w w0.heap.size b.S V s.todo
section
variable {w0 w w' : World} {b : Blocks} {A : Option Addr} {n c : Nat} {start caps : Int} {V V' : Value} {ws : List Nat} {s : MS}
theorem Rn.drewN (h : Rn w0 b A n c start caps V ws s w) (k : Nat) : Rn w0 b A n c start caps V ws s (w.drewN k) :=
  ⟨bdrewN h.below k, h.lo, h.prog.drewN k, h.found.drewN k, h.met.drewN k, h.bits, h.capt.drewN k, h.stk.drewN k⟩
theorem Rn.later (h : Rn w0 b A n c start caps V ws s w) (hb : Below w.heap.size w w') : Rn w0 b A n c start caps V ws s w' :=
  ⟨h.below.trans (hb.mono h.below.size), h.lo, h.prog.below hb h.prog.lt, h.found.below hb h.found.lt, h.met.below hb h.met.lt, h.bits, h.capt.below hb h.capt.lt, h.stk.below hb⟩
theorem Rn.drew (h : Rn w0 b A n c start caps V ws s w) : Rn w0 b A n c start caps V ws s w.drew := h.drewN 1
/-- The stack alone has turned. -/
theorem Rn.stacked (h : Rn w0 b A n c start caps V ws s w) (k : Kept w w' (b.S :: V.ownBlock.toList)) {l : List Job} (hs : Stk w' w0.heap.size b.S V' l) : Rn w0 b A n c start caps V' ws { s with todo := l } w' := by
  obtain ⟨m, hb⟩ := h.stk.blk
  have far : ∀ {g : Nat} {t : TypeId} {cs : List Value}, Blk w g t cs → 62 ≠ t → 65 ≠ t → g ∉ (b.S :: V.ownBlock.toList) := fun hg h1 h2 hm => by
    simp only [List.mem_cons, Option.mem_toList] at hm
    rcases hm with e | e
    · exact hb.ne_ hg h1 e.symm
    · exact blk_apart h.stk.own hg h2 e.symm
  refine ⟨Below.kept h.below k ?_ h.below.size, h.lo, h.prog.kept k (far h.prog (by decide) (by decide)), h.found.kept k (far h.found (by decide) (by decide)), h.met.kept k (far h.met (by decide) (by decide)), h.bits, h.capt.kept k (far h.capt (by decide) (by decide)), hs⟩
  intro g hg
  simp only [List.mem_cons, Option.mem_toList] at hg
  rcases hg with rfl | e
  · exact h.lo.S
  · exact (h.stk.own.lt g e).1
/-- A capture is written. -/
theorem Rn.captured (h : Rn w0 b A n c start caps V ws s w) (q : Nat) (x : Int) : Rn w0 b A n c start caps V ws { s with caps := s.caps.set q x } (w.setCell ⟨b.C, q, none⟩ (.int .i64 x)) := by
  have ne : ∀ {g : Nat} {t : TypeId} {cs : List Value}, Blk w g t cs → t ≠ 3 → g ≠ b.C := fun hg h1 => hg.ne_ h.capt h1
  obtain ⟨m, hb⟩ := h.stk.blk
  have k := Kept.setCell (w := w) ⟨b.C, q, none⟩ (.int .i64 x)
  refine ⟨Below.kept h.below k (by intro g hg; rw [List.mem_singleton] at hg; rw [hg]; exact h.lo.C) h.below.size, h.lo, h.prog.far (ne h.prog (by decide)) _, h.found.far (ne h.found (by decide)) _, h.met.far (ne h.met (by decide)) _, h.bits, ?_, ?_⟩
  · have := h.capt.set_ q (.int .i64 x)
    rw [← List.map_set] at this
    exact this
  · refine h.stk.kept k (by rw [List.mem_singleton]; exact ne hb (by decide)) ?_
    intro g hg hm
    rw [List.mem_singleton] at hm
    exact blk_apart h.stk.own h.capt (by decide) (by rw [hg, hm])
/-- A pair is marked. -/
theorem Rn.marked (h : Rn w0 b A n c start caps V ws s w) {q x : Nat} (hq : q < s.met.length) (hx : ws[q / 64]? = some x) :
    Rn w0 b A n c start caps V (ws.set (q / 64) (x ||| 2 ^ (q % 64))) { s with met := s.met.set q true } (w.setCell ⟨b.M, q / 64, none⟩ (.int .u64 ((x ||| 2 ^ (q % 64) : Nat) : Int))) := by
  have ne : ∀ {g : Nat} {t : TypeId} {cs : List Value}, Blk w g t cs → t ≠ 68 → g ≠ b.M := fun hg h1 => hg.ne_ h.met h1
  obtain ⟨m, hb⟩ := h.stk.blk
  have k := Kept.setCell (w := w) ⟨b.M, q / 64, none⟩ (.int .u64 ((x ||| 2 ^ (q % 64) : Nat) : Int))
  refine ⟨Below.kept h.below k (by intro g hg; rw [List.mem_singleton] at hg; rw [hg]; exact h.lo.M) h.below.size, h.lo, h.prog.far (ne h.prog (by decide)) _, h.found.far (ne h.found (by decide)) _, ?_, h.bits.set_ hq hx, h.capt.far (ne h.capt (by decide)) _, ?_⟩
  · have := h.met.set_ (q / 64) (.int .u64 ((x ||| 2 ^ (q % 64) : Nat) : Int))
    rw [show (ws.map fun x : Nat => Value.int .u64 (x : Int)).set (q / 64) (.int .u64 ((x ||| 2 ^ (q % 64) : Nat) : Int)) = (ws.set (q / 64) (x ||| 2 ^ (q % 64))).map fun x : Nat => Value.int .u64 (x : Int) from (List.map_set ..).symm] at this
    exact this
  · refine h.stk.kept k (by rw [List.mem_singleton]; exact ne hb (by decide)) ?_
    intro g hg hm
    rw [List.mem_singleton] at hm
    exact blk_apart h.stk.own h.met (by decide) (by rw [hg, hm])
/-- What the run counts, and whether it has found, does not stand there. -/
theorem Rn.counted (h : Rn w0 b A n c start caps V ws s w) (k : Nat) (f : Option Int) : Rn w0 b A n c start caps V ws { s with steps := k, fin := f } w :=
  ⟨h.below, h.lo, h.prog, h.found, h.met, h.bits, h.capt, h.stk⟩
end
end Go.Proofs.Ytclbbfkgdhmheaa
/- bitstate.Run: the body of the loop over pairs, its frame. -/
namespace Go.Proofs.Ytclbbfkgdhmheaa
open Go.RowKit Go.Proofs.Ytclbbfkgdhmheaa.Mach

/-- The bodies of the loops of a code, in their order. -/
def loopsOf : Code → List Code
  | .loop c => c :: loopsOf c
  | .seq a b => loopsOf a ++ loopsOf b
  | .block _ c => loopsOf c
  | .scope c => loopsOf c
  | .cond _ a b => loopsOf a ++ loopsOf b
  | _ => []
noncomputable def pairsBody : Code := (((Try.f8.body.map loopsOf).getD [])[2]?).getD .skip

set_option maxRecDepth 1000000 in
set_option maxHeartbeats 4000000 in
theorem round_empty {w0 : World} {b : Blocks} {A At : Option Addr} {n c nt ct k0 pl wl cl : Nat} {start caps : Int} {V : Value} {ws : List Nat} {s : MS} {w : World} {anch : Bool} {v0 vb : Value} {L : List InV} {t : List Int}  (u5 u6 u7 u9 u16 u17 u18 u19 u20 u21 u22 u23 u24 u25 u26 u27 u28 u29 u30 u31 u32 u33 u34 u35 u36 u37 u38 u39 u40 u41 u42 u43 u44 u45 u46 u47 u48 u49 u50 u51 u52 u53 u54 u55 u56 u57 u58 u59 u60 u61 u62 u63 u64 u65 u66 u67 u68 u69 u70 u71 u72 u73 u74 u75 u76 u77 u78 u79 u80 u81 u82 u83 u84 u85 u86 u87 u88 u89 u90 u91 u92 u93 u94 u95 u96 u97 u98 u99 u100 u101 u102 u103 u104 u105 u106 u107 u108 u109 u110 u111 u112 u113 u114 u115 u116 u117 u118 u119 u120 u121 u122 u123 u124 u125 u126 u127 u128 u129 u130 u131 u132 u133 u134 u135 u136 u137 u138 u139 u140 u141 u142 u143 u144 u145 u146 u147 u148 u149 u150 u151 u152 u153 u154 u155 u156 u157 u158 u159 u160 u161 u162 u163 u164 u165 u166 u167 u168 u169 u170 u171 u172 u173 u174 u175 u176 u177 u178 u179 u180 u181 u182 u183 u184 u185 u186 u187 u188 u189 u190 u191 u192 u193 u194 u195 u196 u197 u198 u199 u200 u201 u202 u203 u204 u205 u206 u207 u208 u209 u210 u211 u212 u213 u214 u215 u216 u217 u218 u219 u220 u221 u222 u223 u224 u225 u226 u227 u228 u229 u230 u231 u232 u233 u234 u235 : Value) {K : Act → World → Prop} {Q : Exit → Act → World → Prop}
    (h : Rn w0 b A n c start caps V ws s w) (ht : s.todo = [])
    (h1 : anch = true → ∀ (u5 u6 u7 u9 u16 u17 u18 u19 u20 u21 u22 u23 u24 u25 u26 u27 u28 u29 u30 u31 u32 u33 u34 u35 u36 u37 u38 u39 u40 u41 u42 u43 u44 u45 u46 u47 u48 u49 u50 u51 u52 u53 u54 u55 u56 u57 u58 u59 u60 u61 u62 u63 u64 u65 u66 u67 u68 u69 u70 u71 u72 u73 u74 u75 u76 u77 u78 u79 u80 u81 u82 u83 u84 u85 u86 u87 u88 u89 u90 u91 u92 u93 u94 u95 u96 u97 u98 u99 u100 u101 u102 u103 u104 u105 u106 u107 u108 u109 u110 u111 u112 u113 u114 u115 u116 u117 u118 u119 u120 u121 u122 u123 u124 u125 u126 u127 u128 u129 u130 u131 u132 u133 u134 u135 u136 u137 u138 u139 u140 u141 u142 u143 u144 u145 u146 u147 u148 u149 u150 u151 u152 u153 u154 u155 u156 u157 u158 u159 u160 u161 u162 u163 u164 u165 u166 u167 u168 u169 u170 u171 u172 u173 u174 u175 u176 u177 u178 u179 u180 u181 u182 u183 u184 u185 u186 u187 u188 u189 u190 u191 u192 u193 u194 u195 u196 u197 u198 u199 u200 u201 u202 u203 u204 u205 u206 u207 u208 u209 u210 u211 u212 u213 u214 u215 u216 u217 u218 u219 u220 u221 u222 u223 u224 u225 u226 u227 u228 u229 u230 u231 u232 u233 u234 u235 : Value) (w' : World), (Rn w0 b A n c start caps V ws s w') → Q (.exit 1) ⟨#[v0, (.slice At nt ct), (.int .i64 (k0 : Int)), (.bool anch), (.pointer (some ⟨b.P, 0, none⟩)), u5, u6, u7, (.pointer (some ⟨b.R, 0, none⟩)), u9, (.int .i64 (pl : Int)), (.slice (some ⟨b.M, 0, none⟩) wl wl), (.slice (some ⟨b.C, 0, none⟩) cl cl), (.int .i64 (s.steps : Int)), (.pointer (some ⟨b.S, 0, none⟩)), vb, u16, u17, u18, u19, u20, u21, u22, u23, u24, u25, u26, u27, u28, u29, u30, u31, u32, u33, u34, u35, u36, u37, u38, u39, u40, u41, u42, u43, u44, u45, u46, u47, u48, u49, u50, u51, u52, u53, u54, u55, u56, u57, u58, u59, u60, u61, u62, u63, u64, u65, u66, u67, u68, u69, u70, u71, u72, u73, u74, u75, u76, u77, u78, u79, u80, u81, u82, u83, u84, u85, u86, u87, u88, u89, u90, u91, u92, u93, u94, u95, u96, u97, u98, u99, u100, u101, u102, u103, u104, u105, u106, u107, u108, u109, u110, u111, u112, u113, u114, u115, u116, u117, u118, u119, u120, u121, u122, u123, u124, u125, u126, u127, u128, u129, u130, u131, u132, u133, u134, u135, u136, u137, u138, u139, u140, u141, u142, u143, u144, u145, u146, u147, u148, u149, u150, u151, u152, u153, u154, u155, u156, u157, u158, u159, u160, u161, u162, u163, u164, u165, u166, u167, u168, u169, u170, u171, u172, u173, u174, u175, u176, u177, u178, u179, u180, u181, u182, u183, u184, u185, u186, u187, u188, u189, u190, u191, u192, u193, u194, u195, u196, u197, u198, u199, u200, u201, u202, u203, u204, u205, u206, u207, u208, u209, u210, u211, u212, u213, u214, u215, u216, u217, u218, u219, u220, u221, u222, u223, u224, u225, u226, u227, u228, u229, u230, u231, u232, u233, u234, u235], []⟩ w')
    (h2 : anch = false → ∀ (u5 u6 u7 u9 u16 u17 u18 u19 u20 u21 u22 u23 u24 u25 u26 u27 u28 u29 u30 u31 u32 u33 u34 u35 u36 u37 u38 u39 u40 u41 u42 u43 u44 u45 u46 u47 u48 u49 u50 u51 u52 u53 u54 u55 u56 u57 u58 u59 u60 u61 u62 u63 u64 u65 u66 u67 u68 u69 u70 u71 u72 u73 u74 u75 u76 u77 u78 u79 u80 u81 u82 u83 u84 u85 u86 u87 u88 u89 u90 u91 u92 u93 u94 u95 u96 u97 u98 u99 u100 u101 u102 u103 u104 u105 u106 u107 u108 u109 u110 u111 u112 u113 u114 u115 u116 u117 u118 u119 u120 u121 u122 u123 u124 u125 u126 u127 u128 u129 u130 u131 u132 u133 u134 u135 u136 u137 u138 u139 u140 u141 u142 u143 u144 u145 u146 u147 u148 u149 u150 u151 u152 u153 u154 u155 u156 u157 u158 u159 u160 u161 u162 u163 u164 u165 u166 u167 u168 u169 u170 u171 u172 u173 u174 u175 u176 u177 u178 u179 u180 u181 u182 u183 u184 u185 u186 u187 u188 u189 u190 u191 u192 u193 u194 u195 u196 u197 u198 u199 u200 u201 u202 u203 u204 u205 u206 u207 u208 u209 u210 u211 u212 u213 u214 u215 u216 u217 u218 u219 u220 u221 u222 u223 u224 u225 u226 u227 u228 u229 u230 u231 u232 u233 u234 u235 : Value) (w' : World), (Rn w0 b A n c start caps V ws s w') → Q (.exit 2) ⟨#[v0, (.slice At nt ct), (.int .i64 (k0 : Int)), (.bool anch), (.pointer (some ⟨b.P, 0, none⟩)), u5, u6, u7, (.pointer (some ⟨b.R, 0, none⟩)), u9, (.int .i64 (pl : Int)), (.slice (some ⟨b.M, 0, none⟩) wl wl), (.slice (some ⟨b.C, 0, none⟩) cl cl), (.int .i64 (s.steps : Int)), (.pointer (some ⟨b.S, 0, none⟩)), vb, u16, u17, u18, u19, u20, u21, u22, u23, u24, u25, u26, u27, u28, u29, u30, u31, u32, u33, u34, u35, u36, u37, u38, u39, u40, u41, u42, u43, u44, u45, u46, u47, u48, u49, u50, u51, u52, u53, u54, u55, u56, u57, u58, u59, u60, u61, u62, u63, u64, u65, u66, u67, u68, u69, u70, u71, u72, u73, u74, u75, u76, u77, u78, u79, u80, u81, u82, u83, u84, u85, u86, u87, u88, u89, u90, u91, u92, u93, u94, u95, u96, u97, u98, u99, u100, u101, u102, u103, u104, u105, u106, u107, u108, u109, u110, u111, u112, u113, u114, u115, u116, u117, u118, u119, u120, u121, u122, u123, u124, u125, u126, u127, u128, u129, u130, u131, u132, u133, u134, u135, u136, u137, u138, u139, u140, u141, u142, u143, u144, u145, u146, u147, u148, u149, u150, u151, u152, u153, u154, u155, u156, u157, u158, u159, u160, u161, u162, u163, u164, u165, u166, u167, u168, u169, u170, u171, u172, u173, u174, u175, u176, u177, u178, u179, u180, u181, u182, u183, u184, u185, u186, u187, u188, u189, u190, u191, u192, u193, u194, u195, u196, u197, u198, u199, u200, u201, u202, u203, u204, u205, u206, u207, u208, u209, u210, u211, u212, u213, u214, u215, u216, u217, u218, u219, u220, u221, u222, u223, u224, u225, u226, u227, u228, u229, u230, u231, u232, u233, u234, u235], []⟩ w')
    : Code.wp Try.prog pairsBody (Exit.then K Q) ⟨#[v0, (.slice At nt ct), (.int .i64 (k0 : Int)), (.bool anch), (.pointer (some ⟨b.P, 0, none⟩)), u5, u6, u7, (.pointer (some ⟨b.R, 0, none⟩)), u9, (.int .i64 (pl : Int)), (.slice (some ⟨b.M, 0, none⟩) wl wl), (.slice (some ⟨b.C, 0, none⟩) cl cl), (.int .i64 (s.steps : Int)), (.pointer (some ⟨b.S, 0, none⟩)), vb, u16, u17, u18, u19, u20, u21, u22, u23, u24, u25, u26, u27, u28, u29, u30, u31, u32, u33, u34, u35, u36, u37, u38, u39, u40, u41, u42, u43, u44, u45, u46, u47, u48, u49, u50, u51, u52, u53, u54, u55, u56, u57, u58, u59, u60, u61, u62, u63, u64, u65, u66, u67, u68, u69, u70, u71, u72, u73, u74, u75, u76, u77, u78, u79, u80, u81, u82, u83, u84, u85, u86, u87, u88, u89, u90, u91, u92, u93, u94, u95, u96, u97, u98, u99, u100, u101, u102, u103, u104, u105, u106, u107, u108, u109, u110, u111, u112, u113, u114, u115, u116, u117, u118, u119, u120, u121, u122, u123, u124, u125, u126, u127, u128, u129, u130, u131, u132, u133, u134, u135, u136, u137, u138, u139, u140, u141, u142, u143, u144, u145, u146, u147, u148, u149, u150, u151, u152, u153, u154, u155, u156, u157, u158, u159, u160, u161, u162, u163, u164, u165, u166, u167, u168, u169, u170, u171, u172, u173, u174, u175, u176, u177, u178, u179, u180, u181, u182, u183, u184, u185, u186, u187, u188, u189, u190, u191, u192, u193, u194, u195, u196, u197, u198, u199, u200, u201, u202, u203, u204, u205, u206, u207, u208, u209, u210, u211, u212, u213, u214, u215, u216, u217, u218, u219, u220, u221, u222, u223, u224, u225, u226, u227, u228, u229, u230, u231, u232, u233, u234, u235], []⟩ w := by
  have hs := h.stk
  rw [ht] at hs
  have H := Lib.hid h
  have HP := Lib.hid (pop_empty w0.heap.size b.S V w hs)
  clear h hs ht
  conv => arg 2; whnf
  cases anch with
  | true =>
    have H1 := Lib.hid (h1 rfl)
    clear h1 h2
    go_wp2_with (go_at_call 21; refine HP.out.mono ?_; rintro e w1 ⟨rfl, hb1⟩; simp only [])
    apply H1.out
    exact (H.out.later hb1).later ((Below.refl _ _).alloc (Nat.le_refl _) _)
  | false =>
    have H2 := Lib.hid (h2 rfl)
    clear h1 h2
    go_wp2_with (go_at_call 21; refine HP.out.mono ?_; rintro e w1 ⟨rfl, hb1⟩; simp only [])
    apply H2.out
    exact (H.out.later hb1).later ((Below.refl _ _).alloc (Nat.le_refl _) _)


set_option maxRecDepth 1000000 in
set_option maxHeartbeats 4000000 in
theorem round_back {w0 : World} {b : Blocks} {A At : Option Addr} {n c nt ct k0 pl wl cl : Nat} {start caps : Int} {V : Value} {ws : List Nat} {s : MS} {w : World} {anch : Bool} {v0 vb : Value} {L : List InV} {t : List Int} {cc : Nat} {old : Int} {r : List Job} (u5 u6 u7 u9 u16 u17 u18 u19 u20 u21 u22 u23 u24 u25 u26 u27 u28 u29 u30 u31 u32 u33 u34 u35 u36 u37 u38 u39 u40 u41 u42 u43 u44 u45 u46 u47 u48 u49 u50 u51 u52 u53 u54 u55 u56 u57 u58 u59 u60 u61 u62 u63 u64 u65 u66 u67 u68 u69 u70 u71 u72 u73 u74 u75 u76 u77 u78 u79 u80 u81 u82 u83 u84 u85 u86 u87 u88 u89 u90 u91 u92 u93 u94 u95 u96 u97 u98 u99 u100 u101 u102 u103 u104 u105 u106 u107 u108 u109 u110 u111 u112 u113 u114 u115 u116 u117 u118 u119 u120 u121 u122 u123 u124 u125 u126 u127 u128 u129 u130 u131 u132 u133 u134 u135 u136 u137 u138 u139 u140 u141 u142 u143 u144 u145 u146 u147 u148 u149 u150 u151 u152 u153 u154 u155 u156 u157 u158 u159 u160 u161 u162 u163 u164 u165 u166 u167 u168 u169 u170 u171 u172 u173 u174 u175 u176 u177 u178 u179 u180 u181 u182 u183 u184 u185 u186 u187 u188 u189 u190 u191 u192 u193 u194 u195 u196 u197 u198 u199 u200 u201 u202 u203 u204 u205 u206 u207 u208 u209 u210 u211 u212 u213 u214 u215 u216 u217 u218 u219 u220 u221 u222 u223 u224 u225 u226 u227 u228 u229 u230 u231 u232 u233 u234 u235 : Value) {K : Act → World → Prop} {Q : Exit → Act → World → Prop}
    (h : Rn w0 b A n c start caps V ws s w) (ht : s.todo = .back cc old :: r) (hcc : cc < s.caps.length) (hcl : cl = s.caps.length) (hcap : cl ≤ 1002) (hroom : r.length ≤ 1000000000)
    (hK : ∀ (u5 u6 u7 u9 u16 u17 u18 u19 u20 u21 u22 u23 u24 u25 u26 u27 u28 u29 u30 u31 u32 u33 u34 u35 u36 u37 u38 u39 u40 u41 u42 u43 u44 u45 u46 u47 u48 u49 u50 u51 u52 u53 u54 u55 u56 u57 u58 u59 u60 u61 u62 u63 u64 u65 u66 u67 u68 u69 u70 u71 u72 u73 u74 u75 u76 u77 u78 u79 u80 u81 u82 u83 u84 u85 u86 u87 u88 u89 u90 u91 u92 u93 u94 u95 u96 u97 u98 u99 u100 u101 u102 u103 u104 u105 u106 u107 u108 u109 u110 u111 u112 u113 u114 u115 u116 u117 u118 u119 u120 u121 u122 u123 u124 u125 u126 u127 u128 u129 u130 u131 u132 u133 u134 u135 u136 u137 u138 u139 u140 u141 u142 u143 u144 u145 u146 u147 u148 u149 u150 u151 u152 u153 u154 u155 u156 u157 u158 u159 u160 u161 u162 u163 u164 u165 u166 u167 u168 u169 u170 u171 u172 u173 u174 u175 u176 u177 u178 u179 u180 u181 u182 u183 u184 u185 u186 u187 u188 u189 u190 u191 u192 u193 u194 u195 u196 u197 u198 u199 u200 u201 u202 u203 u204 u205 u206 u207 u208 u209 u210 u211 u212 u213 u214 u215 u216 u217 u218 u219 u220 u221 u222 u223 u224 u225 u226 u227 u228 u229 u230 u231 u232 u233 u234 u235 : Value) (w' : World), (∃ V' ws', Rn w0 b A n c start caps V' ws' { s with todo := r, caps := s.caps.set cc old } w') → K ⟨#[v0, (.slice At nt ct), (.int .i64 (k0 : Int)), (.bool anch), (.pointer (some ⟨b.P, 0, none⟩)), u5, u6, u7, (.pointer (some ⟨b.R, 0, none⟩)), u9, (.int .i64 (pl : Int)), (.slice (some ⟨b.M, 0, none⟩) wl wl), (.slice (some ⟨b.C, 0, none⟩) cl cl), (.int .i64 (s.steps : Int)), (.pointer (some ⟨b.S, 0, none⟩)), vb, u16, u17, u18, u19, u20, u21, u22, u23, u24, u25, u26, u27, u28, u29, u30, u31, u32, u33, u34, u35, u36, u37, u38, u39, u40, u41, u42, u43, u44, u45, u46, u47, u48, u49, u50, u51, u52, u53, u54, u55, u56, u57, u58, u59, u60, u61, u62, u63, u64, u65, u66, u67, u68, u69, u70, u71, u72, u73, u74, u75, u76, u77, u78, u79, u80, u81, u82, u83, u84, u85, u86, u87, u88, u89, u90, u91, u92, u93, u94, u95, u96, u97, u98, u99, u100, u101, u102, u103, u104, u105, u106, u107, u108, u109, u110, u111, u112, u113, u114, u115, u116, u117, u118, u119, u120, u121, u122, u123, u124, u125, u126, u127, u128, u129, u130, u131, u132, u133, u134, u135, u136, u137, u138, u139, u140, u141, u142, u143, u144, u145, u146, u147, u148, u149, u150, u151, u152, u153, u154, u155, u156, u157, u158, u159, u160, u161, u162, u163, u164, u165, u166, u167, u168, u169, u170, u171, u172, u173, u174, u175, u176, u177, u178, u179, u180, u181, u182, u183, u184, u185, u186, u187, u188, u189, u190, u191, u192, u193, u194, u195, u196, u197, u198, u199, u200, u201, u202, u203, u204, u205, u206, u207, u208, u209, u210, u211, u212, u213, u214, u215, u216, u217, u218, u219, u220, u221, u222, u223, u224, u225, u226, u227, u228, u229, u230, u231, u232, u233, u234, u235], []⟩ w')
    : Code.wp Try.prog pairsBody (Exit.then K Q) ⟨#[v0, (.slice At nt ct), (.int .i64 (k0 : Int)), (.bool anch), (.pointer (some ⟨b.P, 0, none⟩)), u5, u6, u7, (.pointer (some ⟨b.R, 0, none⟩)), u9, (.int .i64 (pl : Int)), (.slice (some ⟨b.M, 0, none⟩) wl wl), (.slice (some ⟨b.C, 0, none⟩) cl cl), (.int .i64 (s.steps : Int)), (.pointer (some ⟨b.S, 0, none⟩)), vb, u16, u17, u18, u19, u20, u21, u22, u23, u24, u25, u26, u27, u28, u29, u30, u31, u32, u33, u34, u35, u36, u37, u38, u39, u40, u41, u42, u43, u44, u45, u46, u47, u48, u49, u50, u51, u52, u53, u54, u55, u56, u57, u58, u59, u60, u61, u62, u63, u64, u65, u66, u67, u68, u69, u70, u71, u72, u73, u74, u75, u76, u77, u78, u79, u80, u81, u82, u83, u84, u85, u86, u87, u88, u89, u90, u91, u92, u93, u94, u95, u96, u97, u98, u99, u100, u101, u102, u103, u104, u105, u106, u107, u108, u109, u110, u111, u112, u113, u114, u115, u116, u117, u118, u119, u120, u121, u122, u123, u124, u125, u126, u127, u128, u129, u130, u131, u132, u133, u134, u135, u136, u137, u138, u139, u140, u141, u142, u143, u144, u145, u146, u147, u148, u149, u150, u151, u152, u153, u154, u155, u156, u157, u158, u159, u160, u161, u162, u163, u164, u165, u166, u167, u168, u169, u170, u171, u172, u173, u174, u175, u176, u177, u178, u179, u180, u181, u182, u183, u184, u185, u186, u187, u188, u189, u190, u191, u192, u193, u194, u195, u196, u197, u198, u199, u200, u201, u202, u203, u204, u205, u206, u207, u208, u209, u210, u211, u212, u213, u214, u215, u216, u217, u218, u219, u220, u221, u222, u223, u224, u225, u226, u227, u228, u229, u230, u231, u232, u233, u234, u235], []⟩ w := by
  have hs := h.stk
  rw [ht] at hs
  have H := Lib.hid h
  have HP := Lib.hid (pop_any w0.heap.size b.S V r (.back cc old) w 0 0 ((cc : Int) + 1) old rfl hs hroom)
  have HK := Lib.hid hK
  have hlt : (cc : Int) < (cl : Int) := by omega
  have HC := Lib.hid hcc
  obtain ⟨z, hz⟩ : ∃ z, (s.caps.map (Value.int .i64))[cc]? = some z := ⟨_, List.getElem?_eq_getElem (by simpa using hcc)⟩
  have HZ := Lib.hid hz
  clear h hs ht hK hcc hcl hz
  conv => arg 2; whnf
  go_wp2_with (go_at_call 21; refine HP.out.mono ?_; rintro e w1 ⟨rfl, V1, hs1, hk1, _⟩; have H1 := Lib.hid (H.out.stacked hk1 hs1); have q1 : w1.cell? ⟨b.C, cc, none⟩ = some z := (H1.out.capt.cell cc).trans HZ.out; have q2 : w1.frozen? ⟨b.C, cc, none⟩ = false := H1.out.capt.frozen cc; have q3 : b.C < w1.heap.size := H1.out.capt.lt; clear hs1 hk1; simp only [])
  apply HK.out
  exact ⟨_, _, (H1.out.captured cc old).later ((Below.refl _ _).alloc (Nat.le_refl _) _)⟩


set_option maxRecDepth 1000000 in
set_option maxHeartbeats 4000000 in
theorem round_met {w0 : World} {b : Blocks} {A At : Option Addr} {n c nt ct k0 pl wl cl : Nat} {start caps : Int} {V : Value} {ws : List Nat} {s : MS} {w : World} {anch : Bool} {v0 vb : Value} {L : List InV} {t : List Int} {i k q : Nat} {r : List Job} (u5 u6 u7 u9 u16 u17 u18 u19 u20 u21 u22 u23 u24 u25 u26 u27 u28 u29 u30 u31 u32 u33 u34 u35 u36 u37 u38 u39 u40 u41 u42 u43 u44 u45 u46 u47 u48 u49 u50 u51 u52 u53 u54 u55 u56 u57 u58 u59 u60 u61 u62 u63 u64 u65 u66 u67 u68 u69 u70 u71 u72 u73 u74 u75 u76 u77 u78 u79 u80 u81 u82 u83 u84 u85 u86 u87 u88 u89 u90 u91 u92 u93 u94 u95 u96 u97 u98 u99 u100 u101 u102 u103 u104 u105 u106 u107 u108 u109 u110 u111 u112 u113 u114 u115 u116 u117 u118 u119 u120 u121 u122 u123 u124 u125 u126 u127 u128 u129 u130 u131 u132 u133 u134 u135 u136 u137 u138 u139 u140 u141 u142 u143 u144 u145 u146 u147 u148 u149 u150 u151 u152 u153 u154 u155 u156 u157 u158 u159 u160 u161 u162 u163 u164 u165 u166 u167 u168 u169 u170 u171 u172 u173 u174 u175 u176 u177 u178 u179 u180 u181 u182 u183 u184 u185 u186 u187 u188 u189 u190 u191 u192 u193 u194 u195 u196 u197 u198 u199 u200 u201 u202 u203 u204 u205 u206 u207 u208 u209 u210 u211 u212 u213 u214 u215 u216 u217 u218 u219 u220 u221 u222 u223 u224 u225 u226 u227 u228 u229 u230 u231 u232 u233 u234 u235 : Value) {K : Act → World → Prop} {Q : Exit → Act → World → Prop}
    (h : Rn w0 b A n c start caps V ws s w) (ht : s.todo = .pair i k :: r) (hroom : r.length ≤ 1000000000) (hi : i ≤ 20000) (hk : k ≤ 4194304) (hk0 : k0 ≤ k) (hpl : pl ≤ 4194305) (hq : i * pl + (k - k0) = q) (hq2 : q < s.met.length) (hq3 : s.met.length ≤ 16777216) (hwl : wl = ws.length) (hm : s.met.getD q true = true)
    (hK : ∀ (u5 u6 u7 u9 u16 u17 u18 u19 u20 u21 u22 u23 u24 u25 u26 u27 u28 u29 u30 u31 u32 u33 u34 u35 u36 u37 u38 u39 u40 u41 u42 u43 u44 u45 u46 u47 u48 u49 u50 u51 u52 u53 u54 u55 u56 u57 u58 u59 u60 u61 u62 u63 u64 u65 u66 u67 u68 u69 u70 u71 u72 u73 u74 u75 u76 u77 u78 u79 u80 u81 u82 u83 u84 u85 u86 u87 u88 u89 u90 u91 u92 u93 u94 u95 u96 u97 u98 u99 u100 u101 u102 u103 u104 u105 u106 u107 u108 u109 u110 u111 u112 u113 u114 u115 u116 u117 u118 u119 u120 u121 u122 u123 u124 u125 u126 u127 u128 u129 u130 u131 u132 u133 u134 u135 u136 u137 u138 u139 u140 u141 u142 u143 u144 u145 u146 u147 u148 u149 u150 u151 u152 u153 u154 u155 u156 u157 u158 u159 u160 u161 u162 u163 u164 u165 u166 u167 u168 u169 u170 u171 u172 u173 u174 u175 u176 u177 u178 u179 u180 u181 u182 u183 u184 u185 u186 u187 u188 u189 u190 u191 u192 u193 u194 u195 u196 u197 u198 u199 u200 u201 u202 u203 u204 u205 u206 u207 u208 u209 u210 u211 u212 u213 u214 u215 u216 u217 u218 u219 u220 u221 u222 u223 u224 u225 u226 u227 u228 u229 u230 u231 u232 u233 u234 u235 : Value) (w' : World), (∃ V' ws', Rn w0 b A n c start caps V' ws' { s with todo := r } w') → K ⟨#[v0, (.slice At nt ct), (.int .i64 (k0 : Int)), (.bool anch), (.pointer (some ⟨b.P, 0, none⟩)), u5, u6, u7, (.pointer (some ⟨b.R, 0, none⟩)), u9, (.int .i64 (pl : Int)), (.slice (some ⟨b.M, 0, none⟩) wl wl), (.slice (some ⟨b.C, 0, none⟩) cl cl), (.int .i64 (s.steps : Int)), (.pointer (some ⟨b.S, 0, none⟩)), vb, u16, u17, u18, u19, u20, u21, u22, u23, u24, u25, u26, u27, u28, u29, u30, u31, u32, u33, u34, u35, u36, u37, u38, u39, u40, u41, u42, u43, u44, u45, u46, u47, u48, u49, u50, u51, u52, u53, u54, u55, u56, u57, u58, u59, u60, u61, u62, u63, u64, u65, u66, u67, u68, u69, u70, u71, u72, u73, u74, u75, u76, u77, u78, u79, u80, u81, u82, u83, u84, u85, u86, u87, u88, u89, u90, u91, u92, u93, u94, u95, u96, u97, u98, u99, u100, u101, u102, u103, u104, u105, u106, u107, u108, u109, u110, u111, u112, u113, u114, u115, u116, u117, u118, u119, u120, u121, u122, u123, u124, u125, u126, u127, u128, u129, u130, u131, u132, u133, u134, u135, u136, u137, u138, u139, u140, u141, u142, u143, u144, u145, u146, u147, u148, u149, u150, u151, u152, u153, u154, u155, u156, u157, u158, u159, u160, u161, u162, u163, u164, u165, u166, u167, u168, u169, u170, u171, u172, u173, u174, u175, u176, u177, u178, u179, u180, u181, u182, u183, u184, u185, u186, u187, u188, u189, u190, u191, u192, u193, u194, u195, u196, u197, u198, u199, u200, u201, u202, u203, u204, u205, u206, u207, u208, u209, u210, u211, u212, u213, u214, u215, u216, u217, u218, u219, u220, u221, u222, u223, u224, u225, u226, u227, u228, u229, u230, u231, u232, u233, u234, u235], []⟩ w')
    : Code.wp Try.prog pairsBody (Exit.then K Q) ⟨#[v0, (.slice At nt ct), (.int .i64 (k0 : Int)), (.bool anch), (.pointer (some ⟨b.P, 0, none⟩)), u5, u6, u7, (.pointer (some ⟨b.R, 0, none⟩)), u9, (.int .i64 (pl : Int)), (.slice (some ⟨b.M, 0, none⟩) wl wl), (.slice (some ⟨b.C, 0, none⟩) cl cl), (.int .i64 (s.steps : Int)), (.pointer (some ⟨b.S, 0, none⟩)), vb, u16, u17, u18, u19, u20, u21, u22, u23, u24, u25, u26, u27, u28, u29, u30, u31, u32, u33, u34, u35, u36, u37, u38, u39, u40, u41, u42, u43, u44, u45, u46, u47, u48, u49, u50, u51, u52, u53, u54, u55, u56, u57, u58, u59, u60, u61, u62, u63, u64, u65, u66, u67, u68, u69, u70, u71, u72, u73, u74, u75, u76, u77, u78, u79, u80, u81, u82, u83, u84, u85, u86, u87, u88, u89, u90, u91, u92, u93, u94, u95, u96, u97, u98, u99, u100, u101, u102, u103, u104, u105, u106, u107, u108, u109, u110, u111, u112, u113, u114, u115, u116, u117, u118, u119, u120, u121, u122, u123, u124, u125, u126, u127, u128, u129, u130, u131, u132, u133, u134, u135, u136, u137, u138, u139, u140, u141, u142, u143, u144, u145, u146, u147, u148, u149, u150, u151, u152, u153, u154, u155, u156, u157, u158, u159, u160, u161, u162, u163, u164, u165, u166, u167, u168, u169, u170, u171, u172, u173, u174, u175, u176, u177, u178, u179, u180, u181, u182, u183, u184, u185, u186, u187, u188, u189, u190, u191, u192, u193, u194, u195, u196, u197, u198, u199, u200, u201, u202, u203, u204, u205, u206, u207, u208, u209, u210, u211, u212, u213, u214, u215, u216, u217, u218, u219, u220, u221, u222, u223, u224, u225, u226, u227, u228, u229, u230, u231, u232, u233, u234, u235], []⟩ w := by
  have hs := h.stk
  rw [ht] at hs
  have H := Lib.hid h
  have HP := Lib.hid (pop_any w0.heap.size b.S V r (.pair i k) w (i : Int) (k : Int) 0 0 rfl hs hroom)
  have HK := Lib.hid hK
  obtain ⟨x, hx, hx64, hxb⟩ := h.bits.at_ hq2
  have hmt := mask_test x (q % 64) hx64
  rw [hxb, hm] at hmt
  obtain ⟨y, hy⟩ : ∃ y, bits .and .u64 ((x : Int) / 2 ^ (q % 64)) 1 = y := ⟨_, rfl⟩
  rw [hy] at hmt
  have hxc : (ws.map fun x : Nat => Value.int .u64 (x : Int))[q / 64]? = some (.int .u64 (x : Int)) := by rw [List.getElem?_map, hx]; rfl
  have HXC := Lib.hid hxc
  have hql : q / 64 < ws.length := (List.getElem?_eq_some_iff.1 hx).1
  have hq6 : ((q / 64 : Nat) : Int) < (wl : Int) := by omega
  have hmul : 0 ≤ (i : Int) * (pl : Int) ∧ (i : Int) * (pl : Int) + (k : Int) - (k0 : Int) = (q : Int) := by
    have : (i : Int) * (pl : Int) = ((i * pl : Nat) : Int) := by norm_cast
    rw [this]; omega
  obtain ⟨hm1, hm2⟩ := hmul
  have hm3 : (i : Int) * (pl : Int) ≤ 16777216 := by omega
  clear h hs ht hK hxc hx hx64 hxb hq hm hwl hq2
  conv => arg 2; whnf
  go_wp2_with (go_at_call 21; refine HP.out.mono ?_; rintro e w1 ⟨rfl, V1, hs1, hk1, _⟩; have H1 := Lib.hid (H.out.stacked hk1 hs1); have q1 : w1.cell? ⟨b.M, q / 64, none⟩ = some (.int .u64 (x : Int)) := (H1.out.met.cell (q / 64)).trans HXC.out; have q3 : b.M < w1.heap.size := H1.out.met.lt; clear hs1 hk1; simp only [])
  apply HK.out
  exact ⟨_, _, H1.out.later ((Below.refl _ _).alloc (Nat.le_refl _) _)⟩

end Go.Proofs.Ytclbbfkgdhmheaa
