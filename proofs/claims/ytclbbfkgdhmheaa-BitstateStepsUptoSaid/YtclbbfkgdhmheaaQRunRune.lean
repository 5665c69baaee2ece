/- bitstate.Run: a round over a pair that is met now. -/
import Derived.Test.YtclbbfkgdhmheaaQRunRel
import Derived.Deep.RegionWith
import Derived.StillTailTactics
import Derived.Deep.RegionHeld3
namespace Go.Proofs.Ytclbbfkgdhmheaa
open Go.RowKit Go.Proofs.Ytclbbfkgdhmheaa.Mach

theorem still_open {P : Program} {ops : Array Oper} {w : World} {Q : Act → Prop} {l : List Oper} {a : Act} (h : ∀ Qc : Act → Prop, (∀ a, Q a → Qc a) → wpStill P ops w Qc l a) : wpStill P ops w Q l a := h Q (fun _ h => h)

set_option maxRecDepth 1000000 in
set_option maxHeartbeats 4000000 in
theorem round_rune_out {w0 : World} {b : Blocks} {A At : Option Addr} {n c nt ct k0 pl wl cl : Nat} {start caps : Int} {V : Value} {ws : List Nat} {s : MS} {w : World} {anch : Bool} {v0 vb : Value} {L : List InV} {t : List Int} {i k q : Nat} {r : List Job} {v : InV} (u5 u6 u7 u9 u16 u17 u18 u19 u20 u21 u22 u23 u24 u25 u26 u27 u28 u29 u30 u31 u32 u33 u34 u35 u36 u37 u38 u39 u40 u41 u42 u43 u44 u45 u46 u47 u48 u49 u50 u51 u52 u53 u54 u55 u56 u57 u58 u59 u60 u61 u62 u63 u64 u65 u66 u67 u68 u69 u70 u71 u72 u73 u74 u75 u76 u77 u78 u79 u80 u81 u82 u83 u84 u85 u86 u87 u88 u89 u90 u91 u92 u93 u94 u95 u96 u97 u98 u99 u100 u101 u102 u103 u104 u105 u106 u107 u108 u109 u110 u111 u112 u113 u114 u115 u116 u117 u118 u119 u120 u121 u122 u123 u124 u125 u126 u127 u128 u129 u130 u131 u132 u133 u134 u135 u136 u137 u138 u139 u140 u141 u142 u143 u144 u145 u146 u147 u148 u149 u150 u151 u152 u153 u154 u155 u156 u157 u158 u159 u160 u161 u162 u163 u164 u165 u166 u167 u168 u169 u170 u171 u172 u173 u174 u175 u176 u177 u178 u179 u180 u181 u182 u183 u184 u185 u186 u187 u188 u189 u190 u191 u192 u193 u194 u195 u196 u197 u198 u199 u200 u201 u202 u203 u204 u205 u206 u207 u208 u209 u210 u211 u212 u213 u214 u215 u216 u217 u218 u219 u220 u221 u222 u223 u224 u225 u226 u227 u228 u229 u230 u231 u232 u233 u234 u235 : Value) {K : Act → World → Prop} {Q : Exit → Act → World → Prop}
    (h : Rn w0 b A n c start caps V ws s w) (ht : s.todo = .pair i k :: r) (hroom : r.length ≤ 999999990) (hi : i ≤ 20000) (hk : k ≤ 4194304) (hk0 : k0 ≤ k) (hpl : pl ≤ 4194305) (hq : i * pl + (k - k0) = q) (hq2 : q < s.met.length) (hq3 : s.met.length ≤ 16777216) (hst : s.steps ≤ 16777216) (hwl : wl = ws.length) (hm : s.met.getD q true = false)
    (hP : ReadsP w0 w0.heap.size A n c L) (hv : L[i]? = some v)
    (hop : v.I.op = 1) (hkn : nt ≤ k) (htl : t.length = nt)
    (hK : ∀ (u5 u6 u7 u9 u16 u17 u18 u19 u20 u21 u22 u23 u24 u25 u26 u27 u28 u29 u30 u31 u32 u33 u34 u35 u36 u37 u38 u39 u40 u41 u42 u43 u44 u45 u46 u47 u48 u49 u50 u51 u52 u53 u54 u55 u56 u57 u58 u59 u60 u61 u62 u63 u64 u65 u66 u67 u68 u69 u70 u71 u72 u73 u74 u75 u76 u77 u78 u79 u80 u81 u82 u83 u84 u85 u86 u87 u88 u89 u90 u91 u92 u93 u94 u95 u96 u97 u98 u99 u100 u101 u102 u103 u104 u105 u106 u107 u108 u109 u110 u111 u112 u113 u114 u115 u116 u117 u118 u119 u120 u121 u122 u123 u124 u125 u126 u127 u128 u129 u130 u131 u132 u133 u134 u135 u136 u137 u138 u139 u140 u141 u142 u143 u144 u145 u146 u147 u148 u149 u150 u151 u152 u153 u154 u155 u156 u157 u158 u159 u160 u161 u162 u163 u164 u165 u166 u167 u168 u169 u170 u171 u172 u173 u174 u175 u176 u177 u178 u179 u180 u181 u182 u183 u184 u185 u186 u187 u188 u189 u190 u191 u192 u193 u194 u195 u196 u197 u198 u199 u200 u201 u202 u203 u204 u205 u206 u207 u208 u209 u210 u211 u212 u213 u214 u215 u216 u217 u218 u219 u220 u221 u222 u223 u224 u225 u226 u227 u228 u229 u230 u231 u232 u233 u234 u235 : Value) (w' : World), (∃ V' ws', Rn w0 b A n c start caps V' ws' (eff t v.I k { s with todo := r, met := s.met.set q true, steps := s.steps + 1 }) w') → K ⟨#[v0, (.slice At nt ct), (.int .i64 (k0 : Int)), (.bool anch), (.pointer (some ⟨b.P, 0, none⟩)), u5, u6, u7, (.pointer (some ⟨b.R, 0, none⟩)), u9, (.int .i64 (pl : Int)), (.slice (some ⟨b.M, 0, none⟩) wl wl), (.slice (some ⟨b.C, 0, none⟩) cl cl), (.int .i64 ((s.steps : Int) + 1)), (.pointer (some ⟨b.S, 0, none⟩)), vb, u16, u17, u18, u19, u20, u21, u22, u23, u24, u25, u26, u27, u28, u29, u30, u31, u32, u33, u34, u35, u36, u37, u38, u39, u40, u41, u42, u43, u44, u45, u46, u47, u48, u49, u50, u51, u52, u53, u54, u55, u56, u57, u58, u59, u60, u61, u62, u63, u64, u65, u66, u67, u68, u69, u70, u71, u72, u73, u74, u75, u76, u77, u78, u79, u80, u81, u82, u83, u84, u85, u86, u87, u88, u89, u90, u91, u92, u93, u94, u95, u96, u97, u98, u99, u100, u101, u102, u103, u104, u105, u106, u107, u108, u109, u110, u111, u112, u113, u114, u115, u116, u117, u118, u119, u120, u121, u122, u123, u124, u125, u126, u127, u128, u129, u130, u131, u132, u133, u134, u135, u136, u137, u138, u139, u140, u141, u142, u143, u144, u145, u146, u147, u148, u149, u150, u151, u152, u153, u154, u155, u156, u157, u158, u159, u160, u161, u162, u163, u164, u165, u166, u167, u168, u169, u170, u171, u172, u173, u174, u175, u176, u177, u178, u179, u180, u181, u182, u183, u184, u185, u186, u187, u188, u189, u190, u191, u192, u193, u194, u195, u196, u197, u198, u199, u200, u201, u202, u203, u204, u205, u206, u207, u208, u209, u210, u211, u212, u213, u214, u215, u216, u217, u218, u219, u220, u221, u222, u223, u224, u225, u226, u227, u228, u229, u230, u231, u232, u233, u234, u235], []⟩ w')
    : Code.wp Try.prog pairsBody (Exit.then K Q) ⟨#[v0, (.slice At nt ct), (.int .i64 (k0 : Int)), (.bool anch), (.pointer (some ⟨b.P, 0, none⟩)), u5, u6, u7, (.pointer (some ⟨b.R, 0, none⟩)), u9, (.int .i64 (pl : Int)), (.slice (some ⟨b.M, 0, none⟩) wl wl), (.slice (some ⟨b.C, 0, none⟩) cl cl), (.int .i64 (s.steps : Int)), (.pointer (some ⟨b.S, 0, none⟩)), vb, u16, u17, u18, u19, u20, u21, u22, u23, u24, u25, u26, u27, u28, u29, u30, u31, u32, u33, u34, u35, u36, u37, u38, u39, u40, u41, u42, u43, u44, u45, u46, u47, u48, u49, u50, u51, u52, u53, u54, u55, u56, u57, u58, u59, u60, u61, u62, u63, u64, u65, u66, u67, u68, u69, u70, u71, u72, u73, u74, u75, u76, u77, u78, u79, u80, u81, u82, u83, u84, u85, u86, u87, u88, u89, u90, u91, u92, u93, u94, u95, u96, u97, u98, u99, u100, u101, u102, u103, u104, u105, u106, u107, u108, u109, u110, u111, u112, u113, u114, u115, u116, u117, u118, u119, u120, u121, u122, u123, u124, u125, u126, u127, u128, u129, u130, u131, u132, u133, u134, u135, u136, u137, u138, u139, u140, u141, u142, u143, u144, u145, u146, u147, u148, u149, u150, u151, u152, u153, u154, u155, u156, u157, u158, u159, u160, u161, u162, u163, u164, u165, u166, u167, u168, u169, u170, u171, u172, u173, u174, u175, u176, u177, u178, u179, u180, u181, u182, u183, u184, u185, u186, u187, u188, u189, u190, u191, u192, u193, u194, u195, u196, u197, u198, u199, u200, u201, u202, u203, u204, u205, u206, u207, u208, u209, u210, u211, u212, u213, u214, u215, u216, u217, u218, u219, u220, u221, u222, u223, u224, u225, u226, u227, u228, u229, u230, u231, u232, u233, u234, u235], []⟩ w := by
  have hs := h.stk
  rw [ht] at hs
  have H := Lib.hid h
  have HP := Lib.hid (pop_any w0.heap.size b.S V r (.pair i k) w (i : Int) (k : Int) 0 0 rfl hs (by omega))
  have HK := Lib.hid hK
  obtain ⟨x, hx, hx64, hxb⟩ := h.bits.at_ hq2
  have hmt := mask_test x (q % 64) hx64
  rw [hxb, hm] at hmt
  obtain ⟨y, hy⟩ : ∃ y, bits .and .u64 ((x : Int) / 2 ^ (q % 64)) 1 = y := ⟨_, rfl⟩
  rw [hy] at hmt
  have hms := mask_set x (q % 64) hx64 (by omega)
  have hxc : (ws.map fun x : Nat => Value.int .u64 (x : Int))[q / 64]? = some (.int .u64 (x : Int)) := by rw [List.getElem?_map, hx]; rfl
  have HXC := Lib.hid hxc
  have HX := Lib.hid hx
  have HQ := Lib.hid hq2
  have hql : q / 64 < ws.length := (List.getElem?_eq_some_iff.1 hx).1
  have hq6 : ((q / 64 : Nat) : Int) < (wl : Int) := by omega
  have hmul : 0 ≤ (i : Int) * (pl : Int) ∧ (i : Int) * (pl : Int) + (k : Int) - (k0 : Int) = (q : Int) := by
    have : (i : Int) * (pl : Int) = ((i * pl : Nat) : Int) := by norm_cast
    rw [this]; omega
  obtain ⟨hm1, hm2⟩ := hmul
  have hm3 : (i : Int) * (pl : Int) ≤ 16777216 := by omega
  have HRP := Lib.hid hP
  have hin : i < n := by have := hP.len; have := (List.getElem?_eq_some_iff.1 hv).1; omega
  have HV := Lib.hid hv
  obtain ⟨ab, ao, rfl, hab⟩ := hP.at_ (by omega)
  obtain ⟨⟨iop, ix, iy, iarg, irng⟩, iA, inn, ic⟩ := v
  obtain rfl : iop = 1 := hop
  have HTL := Lib.hid htl
  have hkd : ¬ ((k : Int) < (nt : Int)) := by omega
  have hkd4 : decide (k < nt) = false := decide_eq_false (by omega)
  have HKD2 := Lib.hid (show decide ((k : Int) < (nt : Int)) = false from decide_eq_false hkd)
  have HKD4 := Lib.hid hkd4
  clear htl hkd hkd4
  clear h hs ht hK hxc hx hx64 hxb hq hm hwl hq2 hP hv
  conv => arg 2; whnf
  go_wp2_with (go_at_call 21; refine HP.out.mono ?_; rintro e w1 ⟨rfl, V1, hs1, hk1, _⟩; have H1 := Lib.hid (H.out.stacked hk1 hs1); have q1 : w1.cell? ⟨b.M, q / 64, none⟩ = some (.int .u64 (x : Int)) := (H1.out.met.cell (q / 64)).trans HXC.out; have q2 : w1.frozen? ⟨b.M, q / 64, none⟩ = false := H1.out.met.frozen (q / 64); have q3 : b.M < w1.heap.size := H1.out.met.lt; clear hs1 hk1; simp only [])
  go_region
  have hn := Lib.hid (((H1.out.marked HQ.out HX.out).later ((Below.refl _ _).alloc (Nat.le_refl _) (.cells #[.int .i64 (i : Int), .int .i64 (k : Int), .int .i64 0, .int .i64 0] 65))).drew)
  have hjb : Blk (((w1.setCell ⟨b.M, q / 64, none⟩ (.int .u64 ((x ||| 2 ^ (q % 64) : Nat) : Int))).alloc (.cells #[.int .i64 (i : Int), .int .i64 (k : Int), .int .i64 0, .int .i64 0] 65)).drew) w1.heap.size 65 [.int .i64 (i : Int), .int .i64 (k : Int), .int .i64 0, .int .i64 0] := by
    have := Blk.new (w1.setCell ⟨b.M, q / 64, none⟩ (.int .u64 ((x ||| 2 ^ (q % 64) : Nat) : Int))) 65 [.int .i64 (i : Int), .int .i64 (k : Int), .int .i64 0, .int .i64 0]
    rw [show (w1.setCell ⟨b.M, q / 64, none⟩ (.int .u64 ((x ||| 2 ^ (q % 64) : Nat) : Int))).heap.size = w1.heap.size from by simp [World.setCell]] at this
    exact this.drew
  clear q1 q2 q3 hms
  generalize ((w1.setCell ⟨b.M, q / 64, none⟩ (.int .u64 ((x ||| 2 ^ (q % 64) : Nat) : Int))).alloc (.cells #[.int .i64 (i : Int), .int .i64 (k : Int), .int .i64 0, .int .i64 0] 65)).drew = w2 at *
  have p0 : w2.cell? ⟨b.P, 0, none⟩ = some (.slice (some ⟨ab, ao, none⟩) n c) := hn.out.prog.cell 0
  have p1 : b.P < w2.heap.size := hn.out.prog.lt
  have j0 : w2.cell? ⟨w1.heap.size, 0, none⟩ = some (.int .i64 (i : Int)) := hjb.cell 0
  have j1 : w2.cell? ⟨w1.heap.size, 1, none⟩ = some (.int .i64 (k : Int)) := hjb.cell 1
  have j4 : w1.heap.size < w2.heap.size := hjb.lt
  have hrp2 := HRP.out.below hn.out.below
  have hab2 : ab < w2.heap.size := Nat.lt_of_lt_of_le hab hn.out.below.size
  obtain ⟨i0, i1, i2, i3, i4⟩ := hrp2.cells HV.out
  simp only [] at i0 i1 i2 i3 i4
  have HRP2 := Lib.hid hrp2
  have HJB := Lib.hid hjb
  have HNOT := Lib.hid (show ∀ g, w1.heap.size ≤ g → g ∉ (b.S :: V1.ownBlock.toList) from fun g hg hm => by
    simp only [List.mem_cons, Option.mem_toList] at hm
    rcases hm with e | e
    · obtain ⟨m, hb⟩ := H1.out.stk.blk
      have := hb.lt
      omega
    · have := (H1.out.stk.own.lt g e).2
      omega)
  clear hjb hrp2
  clear hmt
  have HNEW := Lib.hid (Blk.new w2 57 [.int .i64 1, .int .i64 ix, .int .i64 iy, .int .i64 iarg, .slice iA inn ic])
  have hbi : Below w2.heap.size w2 (w2.alloc (.cells #[.int .i64 1, .int .i64 ix, .int .i64 iy, .int .i64 iarg, .slice iA inn ic] 57)) := (Below.refl _ _).alloc (Nat.le_refl _) _
  go_wp2_with fail
  have e4 : (w2.alloc (.cells #[.int .i64 1, .int .i64 ix, .int .i64 iy, .int .i64 iarg, .slice iA inn ic] 57)).cell? ⟨w1.heap.size, 1, none⟩ = some (.int .i64 (k : Int)) := (HJB.out.alloc _).cell 1
  clear HNEW
  generalize w2.alloc (.cells #[.int .i64 1, .int .i64 ix, .int .i64 iy, .int .i64 iarg, .slice iA inn ic] 57) = w2a at *
  have hkd2 := HKD2.out
  have hkd4 := HKD4.out
  go_quiet (fail)
  go_wp2_with fail
  apply HK.out
  have := (((hn.out.later hbi).drewN nq).counted (s.steps + 1) s.fin)
  have he : eff t ⟨1, ix, iy, iarg, irng⟩ k { s with todo := r, met := s.met.set q true, steps := s.steps + 1 } = { s with todo := r, met := s.met.set q true, steps := s.steps + 1 } := by
    unfold eff
    rw [if_pos rfl, if_neg]
    rintro ⟨h1, _⟩
    have := HTL.out
    omega
  rw [he]
  exact ⟨_, _, this⟩


set_option maxRecDepth 1000000 in
set_option maxHeartbeats 4000000 in
theorem round_rune {w0 : World} {b : Blocks} {A At : Option Addr} {n c nt ct k0 pl wl cl : Nat} {start caps : Int} {V : Value} {ws : List Nat} {s : MS} {w : World} {anch : Bool} {v0 vb : Value} {L : List InV} {t : List Int} {i k q : Nat} {r : List Job} {v : InV} (u5 u6 u7 u9 u16 u17 u18 u19 u20 u21 u22 u23 u24 u25 u26 u27 u28 u29 u30 u31 u32 u33 u34 u35 u36 u37 u38 u39 u40 u41 u42 u43 u44 u45 u46 u47 u48 u49 u50 u51 u52 u53 u54 u55 u56 u57 u58 u59 u60 u61 u62 u63 u64 u65 u66 u67 u68 u69 u70 u71 u72 u73 u74 u75 u76 u77 u78 u79 u80 u81 u82 u83 u84 u85 u86 u87 u88 u89 u90 u91 u92 u93 u94 u95 u96 u97 u98 u99 u100 u101 u102 u103 u104 u105 u106 u107 u108 u109 u110 u111 u112 u113 u114 u115 u116 u117 u118 u119 u120 u121 u122 u123 u124 u125 u126 u127 u128 u129 u130 u131 u132 u133 u134 u135 u136 u137 u138 u139 u140 u141 u142 u143 u144 u145 u146 u147 u148 u149 u150 u151 u152 u153 u154 u155 u156 u157 u158 u159 u160 u161 u162 u163 u164 u165 u166 u167 u168 u169 u170 u171 u172 u173 u174 u175 u176 u177 u178 u179 u180 u181 u182 u183 u184 u185 u186 u187 u188 u189 u190 u191 u192 u193 u194 u195 u196 u197 u198 u199 u200 u201 u202 u203 u204 u205 u206 u207 u208 u209 u210 u211 u212 u213 u214 u215 u216 u217 u218 u219 u220 u221 u222 u223 u224 u225 u226 u227 u228 u229 u230 u231 u232 u233 u234 u235 : Value) {K : Act → World → Prop} {Q : Exit → Act → World → Prop}
    (h : Rn w0 b A n c start caps V ws s w) (ht : s.todo = .pair i k :: r) (hroom : r.length ≤ 999999990) (hi : i ≤ 20000) (hk : k ≤ 4194304) (hk0 : k0 ≤ k) (hpl : pl ≤ 4194305) (hq : i * pl + (k - k0) = q) (hq2 : q < s.met.length) (hq3 : s.met.length ≤ 16777216) (hst : s.steps ≤ 16777216) (hwl : wl = ws.length) (hm : s.met.getD q true = false)
    (hP : ReadsP w0 w0.heap.size A n c L) (hv : L[i]? = some v)
    (hT : Reads w0 w0.heap.size 1 At nt ct (t.map (Value.int .i64))) (htl : t.length = nt)
    (hop : v.I.op = 1) (hix : 0 ≤ v.I.x) (hkn : k < nt) (hright : rightB v.I.rng = true)
    (hK : ∀ (u5 u6 u7 u9 u16 u17 u18 u19 u20 u21 u22 u23 u24 u25 u26 u27 u28 u29 u30 u31 u32 u33 u34 u35 u36 u37 u38 u39 u40 u41 u42 u43 u44 u45 u46 u47 u48 u49 u50 u51 u52 u53 u54 u55 u56 u57 u58 u59 u60 u61 u62 u63 u64 u65 u66 u67 u68 u69 u70 u71 u72 u73 u74 u75 u76 u77 u78 u79 u80 u81 u82 u83 u84 u85 u86 u87 u88 u89 u90 u91 u92 u93 u94 u95 u96 u97 u98 u99 u100 u101 u102 u103 u104 u105 u106 u107 u108 u109 u110 u111 u112 u113 u114 u115 u116 u117 u118 u119 u120 u121 u122 u123 u124 u125 u126 u127 u128 u129 u130 u131 u132 u133 u134 u135 u136 u137 u138 u139 u140 u141 u142 u143 u144 u145 u146 u147 u148 u149 u150 u151 u152 u153 u154 u155 u156 u157 u158 u159 u160 u161 u162 u163 u164 u165 u166 u167 u168 u169 u170 u171 u172 u173 u174 u175 u176 u177 u178 u179 u180 u181 u182 u183 u184 u185 u186 u187 u188 u189 u190 u191 u192 u193 u194 u195 u196 u197 u198 u199 u200 u201 u202 u203 u204 u205 u206 u207 u208 u209 u210 u211 u212 u213 u214 u215 u216 u217 u218 u219 u220 u221 u222 u223 u224 u225 u226 u227 u228 u229 u230 u231 u232 u233 u234 u235 : Value) (w' : World), (∃ V' ws', Rn w0 b A n c start caps V' ws' (eff t v.I k { s with todo := r, met := s.met.set q true, steps := s.steps + 1 }) w') → K ⟨#[v0, (.slice At nt ct), (.int .i64 (k0 : Int)), (.bool anch), (.pointer (some ⟨b.P, 0, none⟩)), u5, u6, u7, (.pointer (some ⟨b.R, 0, none⟩)), u9, (.int .i64 (pl : Int)), (.slice (some ⟨b.M, 0, none⟩) wl wl), (.slice (some ⟨b.C, 0, none⟩) cl cl), (.int .i64 ((s.steps : Int) + 1)), (.pointer (some ⟨b.S, 0, none⟩)), vb, u16, u17, u18, u19, u20, u21, u22, u23, u24, u25, u26, u27, u28, u29, u30, u31, u32, u33, u34, u35, u36, u37, u38, u39, u40, u41, u42, u43, u44, u45, u46, u47, u48, u49, u50, u51, u52, u53, u54, u55, u56, u57, u58, u59, u60, u61, u62, u63, u64, u65, u66, u67, u68, u69, u70, u71, u72, u73, u74, u75, u76, u77, u78, u79, u80, u81, u82, u83, u84, u85, u86, u87, u88, u89, u90, u91, u92, u93, u94, u95, u96, u97, u98, u99, u100, u101, u102, u103, u104, u105, u106, u107, u108, u109, u110, u111, u112, u113, u114, u115, u116, u117, u118, u119, u120, u121, u122, u123, u124, u125, u126, u127, u128, u129, u130, u131, u132, u133, u134, u135, u136, u137, u138, u139, u140, u141, u142, u143, u144, u145, u146, u147, u148, u149, u150, u151, u152, u153, u154, u155, u156, u157, u158, u159, u160, u161, u162, u163, u164, u165, u166, u167, u168, u169, u170, u171, u172, u173, u174, u175, u176, u177, u178, u179, u180, u181, u182, u183, u184, u185, u186, u187, u188, u189, u190, u191, u192, u193, u194, u195, u196, u197, u198, u199, u200, u201, u202, u203, u204, u205, u206, u207, u208, u209, u210, u211, u212, u213, u214, u215, u216, u217, u218, u219, u220, u221, u222, u223, u224, u225, u226, u227, u228, u229, u230, u231, u232, u233, u234, u235], []⟩ w')
    : Code.wp Try.prog pairsBody (Exit.then K Q) ⟨#[v0, (.slice At nt ct), (.int .i64 (k0 : Int)), (.bool anch), (.pointer (some ⟨b.P, 0, none⟩)), u5, u6, u7, (.pointer (some ⟨b.R, 0, none⟩)), u9, (.int .i64 (pl : Int)), (.slice (some ⟨b.M, 0, none⟩) wl wl), (.slice (some ⟨b.C, 0, none⟩) cl cl), (.int .i64 (s.steps : Int)), (.pointer (some ⟨b.S, 0, none⟩)), vb, u16, u17, u18, u19, u20, u21, u22, u23, u24, u25, u26, u27, u28, u29, u30, u31, u32, u33, u34, u35, u36, u37, u38, u39, u40, u41, u42, u43, u44, u45, u46, u47, u48, u49, u50, u51, u52, u53, u54, u55, u56, u57, u58, u59, u60, u61, u62, u63, u64, u65, u66, u67, u68, u69, u70, u71, u72, u73, u74, u75, u76, u77, u78, u79, u80, u81, u82, u83, u84, u85, u86, u87, u88, u89, u90, u91, u92, u93, u94, u95, u96, u97, u98, u99, u100, u101, u102, u103, u104, u105, u106, u107, u108, u109, u110, u111, u112, u113, u114, u115, u116, u117, u118, u119, u120, u121, u122, u123, u124, u125, u126, u127, u128, u129, u130, u131, u132, u133, u134, u135, u136, u137, u138, u139, u140, u141, u142, u143, u144, u145, u146, u147, u148, u149, u150, u151, u152, u153, u154, u155, u156, u157, u158, u159, u160, u161, u162, u163, u164, u165, u166, u167, u168, u169, u170, u171, u172, u173, u174, u175, u176, u177, u178, u179, u180, u181, u182, u183, u184, u185, u186, u187, u188, u189, u190, u191, u192, u193, u194, u195, u196, u197, u198, u199, u200, u201, u202, u203, u204, u205, u206, u207, u208, u209, u210, u211, u212, u213, u214, u215, u216, u217, u218, u219, u220, u221, u222, u223, u224, u225, u226, u227, u228, u229, u230, u231, u232, u233, u234, u235], []⟩ w := by
  have hs := h.stk
  rw [ht] at hs
  have H := Lib.hid h
  have HP := Lib.hid (pop_any w0.heap.size b.S V r (.pair i k) w (i : Int) (k : Int) 0 0 rfl hs (by omega))
  have HK := Lib.hid hK
  obtain ⟨x, hx, hx64, hxb⟩ := h.bits.at_ hq2
  have hmt := mask_test x (q % 64) hx64
  rw [hxb, hm] at hmt
  obtain ⟨y, hy⟩ : ∃ y, bits .and .u64 ((x : Int) / 2 ^ (q % 64)) 1 = y := ⟨_, rfl⟩
  rw [hy] at hmt
  have hms := mask_set x (q % 64) hx64 (by omega)
  have hxc : (ws.map fun x : Nat => Value.int .u64 (x : Int))[q / 64]? = some (.int .u64 (x : Int)) := by rw [List.getElem?_map, hx]; rfl
  have HXC := Lib.hid hxc
  have HX := Lib.hid hx
  have HQ := Lib.hid hq2
  have hql : q / 64 < ws.length := (List.getElem?_eq_some_iff.1 hx).1
  have hq6 : ((q / 64 : Nat) : Int) < (wl : Int) := by omega
  have hmul : 0 ≤ (i : Int) * (pl : Int) ∧ (i : Int) * (pl : Int) + (k : Int) - (k0 : Int) = (q : Int) := by
    have : (i : Int) * (pl : Int) = ((i * pl : Nat) : Int) := by norm_cast
    rw [this]; omega
  obtain ⟨hm1, hm2⟩ := hmul
  have hm3 : (i : Int) * (pl : Int) ≤ 16777216 := by omega
  have HRP := Lib.hid hP
  have hin : i < n := by have := hP.len; have := (List.getElem?_eq_some_iff.1 hv).1; omega
  have HV := Lib.hid hv
  obtain ⟨ab, ao, rfl, hab⟩ := hP.at_ (by omega)
  obtain ⟨⟨iop, ix, iy, iarg, irng⟩, iA, inn, ic⟩ := v
  obtain rfl : iop = 1 := hop
  simp only [] at hix hright
  have hkd : (k : Int) < (nt : Int) := by omega
  obtain ⟨tb, to_, rfl, htb⟩ : ∃ tb to_, At = some ⟨tb, to_, none⟩ ∧ tb < w0.heap.size := by obtain ⟨tb, to_, e, hb, _⟩ := hT.at_ (by omega); exact ⟨tb, to_, e, hb⟩
  have htc : w0.cell? ⟨tb, to_ + k, none⟩ = some (.int .i64 (t.getD k 0)) := by
    refine hT.cellAt ?_
    rw [List.getElem?_map, List.getD_eq_getElem?_getD, List.getElem?_eq_getElem (by omega)]
    rfl
  have HTC := Lib.hid htc
  have HTB := Lib.hid htb
  have HTL := Lib.hid htl
  clear hT htc htl htb
  clear h hs ht hK hxc hx hx64 hxb hq hm hwl hq2 hP hv
  conv => arg 2; whnf
  go_wp2_with (go_at_call 21; refine HP.out.mono ?_; rintro e w1 ⟨rfl, V1, hs1, hk1, _⟩; have H1 := Lib.hid (H.out.stacked hk1 hs1); have q1 : w1.cell? ⟨b.M, q / 64, none⟩ = some (.int .u64 (x : Int)) := (H1.out.met.cell (q / 64)).trans HXC.out; have q2 : w1.frozen? ⟨b.M, q / 64, none⟩ = false := H1.out.met.frozen (q / 64); have q3 : b.M < w1.heap.size := H1.out.met.lt; clear hs1 hk1; simp only [])
  go_region
  have hn := Lib.hid (((H1.out.marked HQ.out HX.out).later ((Below.refl _ _).alloc (Nat.le_refl _) (.cells #[.int .i64 (i : Int), .int .i64 (k : Int), .int .i64 0, .int .i64 0] 65))).drew)
  have hjb : Blk (((w1.setCell ⟨b.M, q / 64, none⟩ (.int .u64 ((x ||| 2 ^ (q % 64) : Nat) : Int))).alloc (.cells #[.int .i64 (i : Int), .int .i64 (k : Int), .int .i64 0, .int .i64 0] 65)).drew) w1.heap.size 65 [.int .i64 (i : Int), .int .i64 (k : Int), .int .i64 0, .int .i64 0] := by
    have := Blk.new (w1.setCell ⟨b.M, q / 64, none⟩ (.int .u64 ((x ||| 2 ^ (q % 64) : Nat) : Int))) 65 [.int .i64 (i : Int), .int .i64 (k : Int), .int .i64 0, .int .i64 0]
    rw [show (w1.setCell ⟨b.M, q / 64, none⟩ (.int .u64 ((x ||| 2 ^ (q % 64) : Nat) : Int))).heap.size = w1.heap.size from by simp [World.setCell]] at this
    exact this.drew
  clear q1 q2 q3 hms
  generalize ((w1.setCell ⟨b.M, q / 64, none⟩ (.int .u64 ((x ||| 2 ^ (q % 64) : Nat) : Int))).alloc (.cells #[.int .i64 (i : Int), .int .i64 (k : Int), .int .i64 0, .int .i64 0] 65)).drew = w2 at *
  have p0 : w2.cell? ⟨b.P, 0, none⟩ = some (.slice (some ⟨ab, ao, none⟩) n c) := hn.out.prog.cell 0
  have p1 : b.P < w2.heap.size := hn.out.prog.lt
  have j0 : w2.cell? ⟨w1.heap.size, 0, none⟩ = some (.int .i64 (i : Int)) := hjb.cell 0
  have j1 : w2.cell? ⟨w1.heap.size, 1, none⟩ = some (.int .i64 (k : Int)) := hjb.cell 1
  have j4 : w1.heap.size < w2.heap.size := hjb.lt
  have hrp2 := HRP.out.below hn.out.below
  have hab2 : ab < w2.heap.size := Nat.lt_of_lt_of_le hab hn.out.below.size
  obtain ⟨i0, i1, i2, i3, i4⟩ := hrp2.cells HV.out
  simp only [] at i0 i1 i2 i3 i4
  have HRP2 := Lib.hid hrp2
  have HJB := Lib.hid hjb
  have HNOT := Lib.hid (show ∀ g, w1.heap.size ≤ g → g ∉ (b.S :: V1.ownBlock.toList) from fun g hg hm => by
    simp only [List.mem_cons, Option.mem_toList] at hm
    rcases hm with e | e
    · obtain ⟨m, hb⟩ := H1.out.stk.blk
      have := hb.lt
      omega
    · have := (H1.out.stk.own.lt g e).2
      omega)
  clear hjb hrp2
  clear hmt
  have HRR := Lib.hid (HRP.out.2 _ (List.mem_of_getElem? HV.out)).1
  simp only [] at HRR
  have HNEW := Lib.hid (Blk.new w2 57 [.int .i64 1, .int .i64 ix, .int .i64 iy, .int .i64 iarg, .slice iA inn ic])
  have hbi : Below w2.heap.size w2 (w2.alloc (.cells #[.int .i64 1, .int .i64 ix, .int .i64 iy, .int .i64 iarg, .slice iA inn ic] 57)) := (Below.refl _ _).alloc (Nat.le_refl _) _
  have hb0 := Lib.hid (hn.out.below.trans (hbi.mono hn.out.below.size))
  go_wp2_with fail
  have e1 : (w2.alloc (.cells #[.int .i64 1, .int .i64 ix, .int .i64 iy, .int .i64 iarg, .slice iA inn ic] 57)).cell? ⟨tb, to_ + k, none⟩ = some (.int .i64 (t.getD k 0)) := (hb0.out.cell (p := ⟨tb, to_ + k, none⟩) HTB.out).trans HTC.out
  have e2 : (w2.alloc (.cells #[.int .i64 1, .int .i64 ix, .int .i64 iy, .int .i64 iarg, .slice iA inn ic] 57)).cell? ⟨w2.heap.size, 4, none⟩ = some (.slice iA inn ic) := HNEW.out.cell 4
  have e4 : (w2.alloc (.cells #[.int .i64 1, .int .i64 ix, .int .i64 iy, .int .i64 iarg, .slice iA inn ic] 57)).cell? ⟨w1.heap.size, 1, none⟩ = some (.int .i64 (k : Int)) := (HJB.out.alloc _).cell 1
  have HNEW2 := Lib.hid HNEW.out.drew
  have HJB2 := Lib.hid (HJB.out.alloc (.cells #[.int .i64 1, .int .i64 ix, .int .i64 iy, .int .i64 iarg, .slice iA inn ic] 57)).drew
  have HR2 := Lib.hid (((HRR.out.below hb0.out).more hb0.out.size).drew)
  have H2 := Lib.hid ((hn.out.later hbi).drew)
  clear HNEW
  generalize w2.alloc (.cells #[.int .i64 1, .int .i64 ix, .int .i64 iy, .int .i64 iarg, .slice iA inn ic] 57) = w2a at *
  have HHAS := Lib.hid (has_any iA inn ic (t.getD k 0) irng w2a.drew HR2.out)
  refine wp_region_still_tail 13 (by kernel_rfl) (by kernel_rfl) ?_
  simp only [List.take_succ_cons, List.take_zero, List.drop_succ_cons, List.drop_zero]
  change wpStill _ _ w2a.drew _ _ _
  refine still_open (fun Qc hQc => ?_)
  repeat still_step
  refine wpStill_nil ?_
  refine hQc _ ?_
  clear hQc Qc
  change wpList _ _ _ _ _ w2a.drew
  cases hbm : memB irng (t.getD k 0) with
  | false =>
    go_wp2_with (go_at_call 22; refine HHAS.out.mono ?_; rintro e w3 ⟨rfl, hb3⟩; rw [hright, hbm]; have H3 := Lib.hid (H2.out.later hb3); clear hb3; simp only [Bool.and_false])
    apply HK.out
    have he : eff t ⟨1, ix, iy, iarg, irng⟩ k { s with todo := r, met := s.met.set q true, steps := s.steps + 1 } = { s with todo := r, met := s.met.set q true, steps := s.steps + 1 } := by
      unfold eff
      rw [if_pos rfl, if_neg]
      rintro ⟨_, h1⟩
      simp only [] at h1
      rw [hbm] at h1
      cases h1
    rw [he]
    exact ⟨_, _, H3.out.counted (s.steps + 1) s.fin⟩
  | true =>
    have HPU2 := Lib.hid (fun u (hb : Stk u w0.heap.size b.S V1 r) => push_any w0.heap.size b.S V1 r (.pair ix.toNat (k + 1)) u ix ((k : Int) + 1) 0 0 (by simp [jobVals]; omega) hb hn.out.lo.S (by omega))
    go_wp2_with (first | (go_at_call 20; refine (HPU2.out _ H3.out.stk).mono ?_; rintro e w4 ⟨rfl, V2, hs4, hk4, _⟩; have H4 := Lib.hid (H3.out.stacked hk4 hs4); clear hs4 hk4; simp only []) | (go_at_call 22; refine HHAS.out.mono ?_; rintro e w3 ⟨rfl, hb3⟩; rw [hright, hbm]; have H3 := Lib.hid (H2.out.later hb3); have d1 : w3.cell? ⟨w1.heap.size, 1, none⟩ = some (.int .i64 (k : Int)) := (HJB2.out.below hb3 HJB2.out.lt).cell 1; have d2 : w3.cell? ⟨w2.heap.size, 1, none⟩ = some (.int .i64 ix) := (HNEW2.out.below hb3 HNEW2.out.lt).cell 1; clear hb3; simp only [Bool.and_true]))
    apply HK.out
    have he : eff t ⟨1, ix, iy, iarg, irng⟩ k { s with todo := r, met := s.met.set q true, steps := s.steps + 1 } = { s with todo := .pair ix.toNat (k + 1) :: r, met := s.met.set q true, steps := s.steps + 1 } := by
      unfold eff
      rw [if_pos rfl, if_pos ⟨by have := HTL.out; omega, hbm⟩]
    rw [he]
    exact ⟨_, _, H4.out.counted (s.steps + 1) s.fin⟩

end Go.Proofs.Ytclbbfkgdhmheaa
/- bitstate.Run: a round over a pair that is met now. -/
namespace Go.Proofs.Ytclbbfkgdhmheaa
open Go.RowKit Go.Proofs.Ytclbbfkgdhmheaa.Mach

set_option maxRecDepth 1000000 in
set_option maxHeartbeats 4000000 in
theorem round_assert {w0 : World} {b : Blocks} {A At : Option Addr} {n c nt ct k0 pl wl cl : Nat} {start caps : Int} {V : Value} {ws : List Nat} {s : MS} {w : World} {anch : Bool} {v0 vb : Value} {L : List InV} {t : List Int} {i k q j : Nat} {r : List Job} {v : InV} (u5 u6 u7 u9 u16 u17 u18 u19 u20 u21 u22 u23 u24 u25 u26 u27 u28 u29 u30 u31 u32 u33 u34 u35 u36 u37 u38 u39 u40 u41 u42 u43 u44 u45 u46 u47 u48 u49 u50 u51 u52 u53 u54 u55 u56 u57 u58 u59 u60 u61 u62 u63 u64 u65 u66 u67 u68 u69 u70 u71 u72 u73 u74 u75 u76 u77 u78 u79 u80 u81 u82 u83 u84 u85 u86 u87 u88 u89 u90 u91 u92 u93 u94 u95 u96 u97 u98 u99 u100 u101 u102 u103 u104 u105 u106 u107 u108 u109 u110 u111 u112 u113 u114 u115 u116 u117 u118 u119 u120 u121 u122 u123 u124 u125 u126 u127 u128 u129 u130 u131 u132 u133 u134 u135 u136 u137 u138 u139 u140 u141 u142 u143 u144 u145 u146 u147 u148 u149 u150 u151 u152 u153 u154 u155 u156 u157 u158 u159 u160 u161 u162 u163 u164 u165 u166 u167 u168 u169 u170 u171 u172 u173 u174 u175 u176 u177 u178 u179 u180 u181 u182 u183 u184 u185 u186 u187 u188 u189 u190 u191 u192 u193 u194 u195 u196 u197 u198 u199 u200 u201 u202 u203 u204 u205 u206 u207 u208 u209 u210 u211 u212 u213 u214 u215 u216 u217 u218 u219 u220 u221 u222 u223 u224 u225 u226 u227 u228 u229 u230 u231 u232 u233 u234 u235 : Value) {K : Act → World → Prop} {Q : Exit → Act → World → Prop}
    (h : Rn w0 b A n c start caps V ws s w) (ht : s.todo = .pair i k :: r) (hroom : r.length ≤ 999999990) (hi : i ≤ 20000) (hk : k ≤ 4194304) (hk0 : k0 ≤ k) (hpl : pl ≤ 4194305) (hq : i * pl + (k - k0) = q) (hq2 : q < s.met.length) (hq3 : s.met.length ≤ 16777216) (hst : s.steps ≤ 16777216) (hwl : wl = ws.length) (hm : s.met.getD q true = false)
    (hP : ReadsP w0 w0.heap.size A n c L) (hv : L[i]? = some v)
    (hT : Reads w0 w0.heap.size 1 At nt ct (t.map (Value.int .i64))) (htl : t.length = nt)
    (hop : v.I.op = 4) (hix : 0 ≤ v.I.x) (hkt : k ≤ nt) (hj : j < 6) (harg : v.I.arg = ((2 ^ j : Nat) : Int))
    (hK : ∀ (u5 u6 u7 u9 u16 u17 u18 u19 u20 u21 u22 u23 u24 u25 u26 u27 u28 u29 u30 u31 u32 u33 u34 u35 u36 u37 u38 u39 u40 u41 u42 u43 u44 u45 u46 u47 u48 u49 u50 u51 u52 u53 u54 u55 u56 u57 u58 u59 u60 u61 u62 u63 u64 u65 u66 u67 u68 u69 u70 u71 u72 u73 u74 u75 u76 u77 u78 u79 u80 u81 u82 u83 u84 u85 u86 u87 u88 u89 u90 u91 u92 u93 u94 u95 u96 u97 u98 u99 u100 u101 u102 u103 u104 u105 u106 u107 u108 u109 u110 u111 u112 u113 u114 u115 u116 u117 u118 u119 u120 u121 u122 u123 u124 u125 u126 u127 u128 u129 u130 u131 u132 u133 u134 u135 u136 u137 u138 u139 u140 u141 u142 u143 u144 u145 u146 u147 u148 u149 u150 u151 u152 u153 u154 u155 u156 u157 u158 u159 u160 u161 u162 u163 u164 u165 u166 u167 u168 u169 u170 u171 u172 u173 u174 u175 u176 u177 u178 u179 u180 u181 u182 u183 u184 u185 u186 u187 u188 u189 u190 u191 u192 u193 u194 u195 u196 u197 u198 u199 u200 u201 u202 u203 u204 u205 u206 u207 u208 u209 u210 u211 u212 u213 u214 u215 u216 u217 u218 u219 u220 u221 u222 u223 u224 u225 u226 u227 u228 u229 u230 u231 u232 u233 u234 u235 : Value) (w' : World), (∃ V' ws', Rn w0 b A n c start caps V' ws' (eff t v.I k { s with todo := r, met := s.met.set q true, steps := s.steps + 1 }) w') → K ⟨#[v0, (.slice At nt ct), (.int .i64 (k0 : Int)), (.bool anch), (.pointer (some ⟨b.P, 0, none⟩)), u5, u6, u7, (.pointer (some ⟨b.R, 0, none⟩)), u9, (.int .i64 (pl : Int)), (.slice (some ⟨b.M, 0, none⟩) wl wl), (.slice (some ⟨b.C, 0, none⟩) cl cl), (.int .i64 ((s.steps : Int) + 1)), (.pointer (some ⟨b.S, 0, none⟩)), vb, u16, u17, u18, u19, u20, u21, u22, u23, u24, u25, u26, u27, u28, u29, u30, u31, u32, u33, u34, u35, u36, u37, u38, u39, u40, u41, u42, u43, u44, u45, u46, u47, u48, u49, u50, u51, u52, u53, u54, u55, u56, u57, u58, u59, u60, u61, u62, u63, u64, u65, u66, u67, u68, u69, u70, u71, u72, u73, u74, u75, u76, u77, u78, u79, u80, u81, u82, u83, u84, u85, u86, u87, u88, u89, u90, u91, u92, u93, u94, u95, u96, u97, u98, u99, u100, u101, u102, u103, u104, u105, u106, u107, u108, u109, u110, u111, u112, u113, u114, u115, u116, u117, u118, u119, u120, u121, u122, u123, u124, u125, u126, u127, u128, u129, u130, u131, u132, u133, u134, u135, u136, u137, u138, u139, u140, u141, u142, u143, u144, u145, u146, u147, u148, u149, u150, u151, u152, u153, u154, u155, u156, u157, u158, u159, u160, u161, u162, u163, u164, u165, u166, u167, u168, u169, u170, u171, u172, u173, u174, u175, u176, u177, u178, u179, u180, u181, u182, u183, u184, u185, u186, u187, u188, u189, u190, u191, u192, u193, u194, u195, u196, u197, u198, u199, u200, u201, u202, u203, u204, u205, u206, u207, u208, u209, u210, u211, u212, u213, u214, u215, u216, u217, u218, u219, u220, u221, u222, u223, u224, u225, u226, u227, u228, u229, u230, u231, u232, u233, u234, u235], []⟩ w')
    : Code.wp Try.prog pairsBody (Exit.then K Q) ⟨#[v0, (.slice At nt ct), (.int .i64 (k0 : Int)), (.bool anch), (.pointer (some ⟨b.P, 0, none⟩)), u5, u6, u7, (.pointer (some ⟨b.R, 0, none⟩)), u9, (.int .i64 (pl : Int)), (.slice (some ⟨b.M, 0, none⟩) wl wl), (.slice (some ⟨b.C, 0, none⟩) cl cl), (.int .i64 (s.steps : Int)), (.pointer (some ⟨b.S, 0, none⟩)), vb, u16, u17, u18, u19, u20, u21, u22, u23, u24, u25, u26, u27, u28, u29, u30, u31, u32, u33, u34, u35, u36, u37, u38, u39, u40, u41, u42, u43, u44, u45, u46, u47, u48, u49, u50, u51, u52, u53, u54, u55, u56, u57, u58, u59, u60, u61, u62, u63, u64, u65, u66, u67, u68, u69, u70, u71, u72, u73, u74, u75, u76, u77, u78, u79, u80, u81, u82, u83, u84, u85, u86, u87, u88, u89, u90, u91, u92, u93, u94, u95, u96, u97, u98, u99, u100, u101, u102, u103, u104, u105, u106, u107, u108, u109, u110, u111, u112, u113, u114, u115, u116, u117, u118, u119, u120, u121, u122, u123, u124, u125, u126, u127, u128, u129, u130, u131, u132, u133, u134, u135, u136, u137, u138, u139, u140, u141, u142, u143, u144, u145, u146, u147, u148, u149, u150, u151, u152, u153, u154, u155, u156, u157, u158, u159, u160, u161, u162, u163, u164, u165, u166, u167, u168, u169, u170, u171, u172, u173, u174, u175, u176, u177, u178, u179, u180, u181, u182, u183, u184, u185, u186, u187, u188, u189, u190, u191, u192, u193, u194, u195, u196, u197, u198, u199, u200, u201, u202, u203, u204, u205, u206, u207, u208, u209, u210, u211, u212, u213, u214, u215, u216, u217, u218, u219, u220, u221, u222, u223, u224, u225, u226, u227, u228, u229, u230, u231, u232, u233, u234, u235], []⟩ w := by
  have hs := h.stk
  rw [ht] at hs
  have H := Lib.hid h
  have HP := Lib.hid (pop_any w0.heap.size b.S V r (.pair i k) w (i : Int) (k : Int) 0 0 rfl hs (by omega))
  have HK := Lib.hid hK
  obtain ⟨x, hx, hx64, hxb⟩ := h.bits.at_ hq2
  have hmt := mask_test x (q % 64) hx64
  rw [hxb, hm] at hmt
  obtain ⟨y, hy⟩ : ∃ y, bits .and .u64 ((x : Int) / 2 ^ (q % 64)) 1 = y := ⟨_, rfl⟩
  rw [hy] at hmt
  have hms := mask_set x (q % 64) hx64 (by omega)
  have hxc : (ws.map fun x : Nat => Value.int .u64 (x : Int))[q / 64]? = some (.int .u64 (x : Int)) := by rw [List.getElem?_map, hx]; rfl
  have HXC := Lib.hid hxc
  have HX := Lib.hid hx
  have HQ := Lib.hid hq2
  have hql : q / 64 < ws.length := (List.getElem?_eq_some_iff.1 hx).1
  have hq6 : ((q / 64 : Nat) : Int) < (wl : Int) := by omega
  have hmul : 0 ≤ (i : Int) * (pl : Int) ∧ (i : Int) * (pl : Int) + (k : Int) - (k0 : Int) = (q : Int) := by
    have : (i : Int) * (pl : Int) = ((i * pl : Nat) : Int) := by norm_cast
    rw [this]; omega
  obtain ⟨hm1, hm2⟩ := hmul
  have hm3 : (i : Int) * (pl : Int) ≤ 16777216 := by omega
  have HRP := Lib.hid hP
  have hin : i < n := by have := hP.len; have := (List.getElem?_eq_some_iff.1 hv).1; omega
  have HV := Lib.hid hv
  obtain ⟨ab, ao, rfl, hab⟩ := hP.at_ (by omega)
  obtain ⟨⟨iop, ix, iy, iarg, irng⟩, iA, inn, ic⟩ := v
  obtain rfl : iop = 4 := hop
  simp only [] at hix harg
  have HAS := Lib.hid (fun u => holds_any j (atBits t k).toNat hj (by have := atBits_bd t k; omega) u)
  rw [show (((atBits t k).toNat : Nat) : Int) = atBits t k from by have := (atBits_bd t k).1; omega, ← harg] at HAS
  have HTT := Lib.hid hT
  clear hT htl harg
  clear h hs ht hK hxc hx hx64 hxb hq hm hwl hq2 hP hv
  conv => arg 2; whnf
  go_wp2_with (go_at_call 21; refine HP.out.mono ?_; rintro e w1 ⟨rfl, V1, hs1, hk1, _⟩; have H1 := Lib.hid (H.out.stacked hk1 hs1); have q1 : w1.cell? ⟨b.M, q / 64, none⟩ = some (.int .u64 (x : Int)) := (H1.out.met.cell (q / 64)).trans HXC.out; have q2 : w1.frozen? ⟨b.M, q / 64, none⟩ = false := H1.out.met.frozen (q / 64); have q3 : b.M < w1.heap.size := H1.out.met.lt; clear hs1 hk1; simp only [])
  go_region
  have hn := Lib.hid (((H1.out.marked HQ.out HX.out).later ((Below.refl _ _).alloc (Nat.le_refl _) (.cells #[.int .i64 (i : Int), .int .i64 (k : Int), .int .i64 0, .int .i64 0] 65))).drew)
  have hjb : Blk (((w1.setCell ⟨b.M, q / 64, none⟩ (.int .u64 ((x ||| 2 ^ (q % 64) : Nat) : Int))).alloc (.cells #[.int .i64 (i : Int), .int .i64 (k : Int), .int .i64 0, .int .i64 0] 65)).drew) w1.heap.size 65 [.int .i64 (i : Int), .int .i64 (k : Int), .int .i64 0, .int .i64 0] := by
    have := Blk.new (w1.setCell ⟨b.M, q / 64, none⟩ (.int .u64 ((x ||| 2 ^ (q % 64) : Nat) : Int))) 65 [.int .i64 (i : Int), .int .i64 (k : Int), .int .i64 0, .int .i64 0]
    rw [show (w1.setCell ⟨b.M, q / 64, none⟩ (.int .u64 ((x ||| 2 ^ (q % 64) : Nat) : Int))).heap.size = w1.heap.size from by simp [World.setCell]] at this
    exact this.drew
  clear q1 q2 q3 hms
  generalize ((w1.setCell ⟨b.M, q / 64, none⟩ (.int .u64 ((x ||| 2 ^ (q % 64) : Nat) : Int))).alloc (.cells #[.int .i64 (i : Int), .int .i64 (k : Int), .int .i64 0, .int .i64 0] 65)).drew = w2 at *
  have p0 : w2.cell? ⟨b.P, 0, none⟩ = some (.slice (some ⟨ab, ao, none⟩) n c) := hn.out.prog.cell 0
  have p1 : b.P < w2.heap.size := hn.out.prog.lt
  have j0 : w2.cell? ⟨w1.heap.size, 0, none⟩ = some (.int .i64 (i : Int)) := hjb.cell 0
  have j1 : w2.cell? ⟨w1.heap.size, 1, none⟩ = some (.int .i64 (k : Int)) := hjb.cell 1
  have j4 : w1.heap.size < w2.heap.size := hjb.lt
  have hrp2 := HRP.out.below hn.out.below
  have hab2 : ab < w2.heap.size := Nat.lt_of_lt_of_le hab hn.out.below.size
  obtain ⟨i0, i1, i2, i3, i4⟩ := hrp2.cells HV.out
  simp only [] at i0 i1 i2 i3 i4
  have HRP2 := Lib.hid hrp2
  have HJB := Lib.hid hjb
  have HNOT := Lib.hid (show ∀ g, w1.heap.size ≤ g → g ∉ (b.S :: V1.ownBlock.toList) from fun g hg hm => by
    simp only [List.mem_cons, Option.mem_toList] at hm
    rcases hm with e | e
    · obtain ⟨m, hb⟩ := H1.out.stk.blk
      have := hb.lt
      omega
    · have := (H1.out.stk.own.lt g e).2
      omega)
  clear hjb hrp2
  clear hmt
  have HNEW := Lib.hid (Blk.new w2 57 [.int .i64 4, .int .i64 ix, .int .i64 iy, .int .i64 iarg, .slice iA inn ic])
  have hbi : Below w2.heap.size w2 (w2.alloc (.cells #[.int .i64 4, .int .i64 ix, .int .i64 iy, .int .i64 iarg, .slice iA inn ic] 57)) := (Below.refl _ _).alloc (Nat.le_refl _) _
  have hb0 := Lib.hid (hn.out.below.trans (hbi.mono hn.out.below.size))
  go_wp2_with fail
  have e2 : (w2.alloc (.cells #[.int .i64 4, .int .i64 ix, .int .i64 iy, .int .i64 iarg, .slice iA inn ic] 57)).cell? ⟨w2.heap.size, 3, none⟩ = some (.int .i64 iarg) := HNEW.out.cell 3
  have e4 : (w2.alloc (.cells #[.int .i64 4, .int .i64 ix, .int .i64 iy, .int .i64 iarg, .slice iA inn ic] 57)).cell? ⟨w1.heap.size, 1, none⟩ = some (.int .i64 (k : Int)) := (HJB.out.alloc _).cell 1
  have HNEW2 := Lib.hid HNEW.out.drew
  have HJB2 := Lib.hid (HJB.out.alloc (.cells #[.int .i64 4, .int .i64 ix, .int .i64 iy, .int .i64 iarg, .slice iA inn ic] 57)).drew
  have HR2 := Lib.hid (((HTT.out.below hb0.out).more hb0.out.size).drew)
  have H2 := Lib.hid ((hn.out.later hbi).drew)
  clear HNEW
  generalize w2.alloc (.cells #[.int .i64 4, .int .i64 ix, .int .i64 iy, .int .i64 iarg, .slice iA inn ic] 57) = w2a at *
  have HAT := Lib.hid (at_any At nt ct k t w2a.drew HR2.out hkt)
  obtain ⟨ab1, hab1⟩ : ∃ x, atBits t k = x := ⟨_, rfl⟩
  rw [hab1] at HAT HAS
  have HAB := Lib.hid hab1
  clear hab1
  refine wp_region_noPanic ?_
  go_region_with (first | (go_at_call 24; (with_reducible refine HAT.out.mono ?_); rintro e w3 ⟨rfl, hb3⟩; have H3 := Lib.hid (H2.out.later hb3); have d1 : w3.cell? ⟨w1.heap.size, 1, none⟩ = some (.int .i64 (k : Int)) := (HJB2.out.below hb3 HJB2.out.lt).cell 1; have d2 : w3.cell? ⟨w2.heap.size, 1, none⟩ = some (.int .i64 ix) := (HNEW2.out.below hb3 HNEW2.out.lt).cell 1; have d3 : w3.cell? ⟨w2.heap.size, 3, none⟩ = some (.int .i64 iarg) := (HNEW2.out.below hb3 HNEW2.out.lt).cell 3; clear hb3; simp only []) | (go_at_call 23; (with_reducible refine (HAS.out _).mono ?_); rintro e w4 ⟨rfl, rfl⟩; simp only []))
  all_goals
    refine NoPanic.normal ?_
    cases hds : decide (ab1 / iarg % 2 = 1) with
    | false =>
      go_wp2_with fail
      apply HK.out
      have he : eff t ⟨4, ix, iy, iarg, irng⟩ k { s with todo := r, met := s.met.set q true, steps := s.steps + 1 } = { s with todo := r, met := s.met.set q true, steps := s.steps + 1 } := by
        show (if asB t k iarg then _ else _) = _
        rw [asB, HAB.out, hds]
        rfl
      rw [he]
      exact ⟨_, _, H3.out.counted (s.steps + 1) s.fin⟩
    | true =>
      have HPU2 := Lib.hid (fun u (hb : Stk u w0.heap.size b.S V1 r) => push_any w0.heap.size b.S V1 r (.pair ix.toNat k) u ix (k : Int) 0 0 (by simp [jobVals]; omega) hb hn.out.lo.S (by omega))
      go_wp2_with (go_at_call 20; refine (HPU2.out _ H3.out.stk).mono ?_; rintro e w4 ⟨rfl, V2, hs4, hk4, _⟩; have H4 := Lib.hid (H3.out.stacked hk4 hs4); clear hs4 hk4; simp only [])
      apply HK.out
      have he : eff t ⟨4, ix, iy, iarg, irng⟩ k { s with todo := r, met := s.met.set q true, steps := s.steps + 1 } = { s with todo := .pair ix.toNat k :: r, met := s.met.set q true, steps := s.steps + 1 } := by
        show (if asB t k iarg then _ else _) = _
        rw [asB, HAB.out, hds]
        rfl
      rw [he]
      exact ⟨_, _, H4.out.counted (s.steps + 1) s.fin⟩

end Go.Proofs.Ytclbbfkgdhmheaa
/- bitstate.Run: a round over a pair that is met now. -/
namespace Go.Proofs.Ytclbbfkgdhmheaa
open Go.RowKit Go.Proofs.Ytclbbfkgdhmheaa.Mach

/-- What Run has found, as it comes out. -/
structure RFound (w0 w' : World) (R : Nat) (ok : Bool) (cv : Value) (caps : List Int) (which steps : Int) : Prop where
  below : Below w0.heap.size w0 w'
  blk : Blk w' R 38 [.bool ok, cv, .int .i64 which, .int .i64 steps]
  own : w'.ownsRow w0.heap.size 3 1 cv caps.length (caps.map (Value.int .i64))

set_option maxRecDepth 1000000 in
set_option maxHeartbeats 4000000 in
theorem round_match {w0 : World} {b : Blocks} {A At : Option Addr} {n c nt ct k0 pl wl cl : Nat} {start caps : Int} {V : Value} {ws : List Nat} {s : MS} {w : World} {anch : Bool} {v0 vb : Value} {L : List InV} {t : List Int} {i k q : Nat} {r : List Job} {v : InV} (u5 u6 u7 u9 u16 u17 u18 u19 u20 u21 u22 u23 u24 u25 u26 u27 u28 u29 u30 u31 u32 u33 u34 u35 u36 u37 u38 u39 u40 u41 u42 u43 u44 u45 u46 u47 u48 u49 u50 u51 u52 u53 u54 u55 u56 u57 u58 u59 u60 u61 u62 u63 u64 u65 u66 u67 u68 u69 u70 u71 u72 u73 u74 u75 u76 u77 u78 u79 u80 u81 u82 u83 u84 u85 u86 u87 u88 u89 u90 u91 u92 u93 u94 u95 u96 u97 u98 u99 u100 u101 u102 u103 u104 u105 u106 u107 u108 u109 u110 u111 u112 u113 u114 u115 u116 u117 u118 u119 u120 u121 u122 u123 u124 u125 u126 u127 u128 u129 u130 u131 u132 u133 u134 u135 u136 u137 u138 u139 u140 u141 u142 u143 u144 u145 u146 u147 u148 u149 u150 u151 u152 u153 u154 u155 u156 u157 u158 u159 u160 u161 u162 u163 u164 u165 u166 u167 u168 u169 u170 u171 u172 u173 u174 u175 u176 u177 u178 u179 u180 u181 u182 u183 u184 u185 u186 u187 u188 u189 u190 u191 u192 u193 u194 u195 u196 u197 u198 u199 u200 u201 u202 u203 u204 u205 u206 u207 u208 u209 u210 u211 u212 u213 u214 u215 u216 u217 u218 u219 u220 u221 u222 u223 u224 u225 u226 u227 u228 u229 u230 u231 u232 u233 u234 u235 : Value) {K : Act → World → Prop} {Q : Exit → Act → World → Prop}
    (h : Rn w0 b A n c start caps V ws s w) (ht : s.todo = .pair i k :: r) (hroom : r.length ≤ 999999990) (hi : i ≤ 20000) (hk : k ≤ 4194304) (hk0 : k0 ≤ k) (hpl : pl ≤ 4194305) (hq : i * pl + (k - k0) = q) (hq2 : q < s.met.length) (hq3 : s.met.length ≤ 16777216) (hst : s.steps ≤ 16777216) (hwl : wl = ws.length) (hm : s.met.getD q true = false)
    (hP : ReadsP w0 w0.heap.size A n c L) (hv : L[i]? = some v)
    (hop : v.I.op = 5) (hcl : cl = s.caps.length) (hcap : cl ≤ 1002)
    (hK : ∀ (a : Act) (w' : World) (cv : Value), a.tmps.getD 8 undef = .pointer (some ⟨b.R, 0, none⟩) → a.tmps.getD 9 undef = .int .i64 0 → a.defers = [] → RFound w0 w' b.R true cv s.caps v.I.arg ((s.steps : Int) + 1) → Q .ret a w')
    : Code.wp Try.prog pairsBody (Exit.then K Q) ⟨#[v0, (.slice At nt ct), (.int .i64 (k0 : Int)), (.bool anch), (.pointer (some ⟨b.P, 0, none⟩)), u5, u6, u7, (.pointer (some ⟨b.R, 0, none⟩)), u9, (.int .i64 (pl : Int)), (.slice (some ⟨b.M, 0, none⟩) wl wl), (.slice (some ⟨b.C, 0, none⟩) cl cl), (.int .i64 (s.steps : Int)), (.pointer (some ⟨b.S, 0, none⟩)), vb, u16, u17, u18, u19, u20, u21, u22, u23, u24, u25, u26, u27, u28, u29, u30, u31, u32, u33, u34, u35, u36, u37, u38, u39, u40, u41, u42, u43, u44, u45, u46, u47, u48, u49, u50, u51, u52, u53, u54, u55, u56, u57, u58, u59, u60, u61, u62, u63, u64, u65, u66, u67, u68, u69, u70, u71, u72, u73, u74, u75, u76, u77, u78, u79, u80, u81, u82, u83, u84, u85, u86, u87, u88, u89, u90, u91, u92, u93, u94, u95, u96, u97, u98, u99, u100, u101, u102, u103, u104, u105, u106, u107, u108, u109, u110, u111, u112, u113, u114, u115, u116, u117, u118, u119, u120, u121, u122, u123, u124, u125, u126, u127, u128, u129, u130, u131, u132, u133, u134, u135, u136, u137, u138, u139, u140, u141, u142, u143, u144, u145, u146, u147, u148, u149, u150, u151, u152, u153, u154, u155, u156, u157, u158, u159, u160, u161, u162, u163, u164, u165, u166, u167, u168, u169, u170, u171, u172, u173, u174, u175, u176, u177, u178, u179, u180, u181, u182, u183, u184, u185, u186, u187, u188, u189, u190, u191, u192, u193, u194, u195, u196, u197, u198, u199, u200, u201, u202, u203, u204, u205, u206, u207, u208, u209, u210, u211, u212, u213, u214, u215, u216, u217, u218, u219, u220, u221, u222, u223, u224, u225, u226, u227, u228, u229, u230, u231, u232, u233, u234, u235], []⟩ w := by
  have hs := h.stk
  rw [ht] at hs
  have H := Lib.hid h
  have HP := Lib.hid (pop_any w0.heap.size b.S V r (.pair i k) w (i : Int) (k : Int) 0 0 rfl hs (by omega))
  have HK := Lib.hid hK
  obtain ⟨x, hx, hx64, hxb⟩ := h.bits.at_ hq2
  have hmt := mask_test x (q % 64) hx64
  rw [hxb, hm] at hmt
  obtain ⟨y, hy⟩ : ∃ y, bits .and .u64 ((x : Int) / 2 ^ (q % 64)) 1 = y := ⟨_, rfl⟩
  rw [hy] at hmt
  have hms := mask_set x (q % 64) hx64 (by omega)
  have hxc : (ws.map fun x : Nat => Value.int .u64 (x : Int))[q / 64]? = some (.int .u64 (x : Int)) := by rw [List.getElem?_map, hx]; rfl
  have HXC := Lib.hid hxc
  have HX := Lib.hid hx
  have HQ := Lib.hid hq2
  have hql : q / 64 < ws.length := (List.getElem?_eq_some_iff.1 hx).1
  have hq6 : ((q / 64 : Nat) : Int) < (wl : Int) := by omega
  have hmul : 0 ≤ (i : Int) * (pl : Int) ∧ (i : Int) * (pl : Int) + (k : Int) - (k0 : Int) = (q : Int) := by
    have : (i : Int) * (pl : Int) = ((i * pl : Nat) : Int) := by norm_cast
    rw [this]; omega
  obtain ⟨hm1, hm2⟩ := hmul
  have hm3 : (i : Int) * (pl : Int) ≤ 16777216 := by omega
  have HRP := Lib.hid hP
  have hin : i < n := by have := hP.len; have := (List.getElem?_eq_some_iff.1 hv).1; omega
  have HV := Lib.hid hv
  obtain ⟨ab, ao, rfl, hab⟩ := hP.at_ (by omega)
  obtain ⟨⟨iop, ix, iy, iarg, irng⟩, iA, inn, ic⟩ := v
  obtain rfl : iop = 5 := hop
  have HCL := Lib.hid hcl
  clear hcl
  clear h hs ht hK hxc hx hx64 hxb hq hm hwl hq2 hP hv
  conv => arg 2; whnf
  go_wp2_with (go_at_call 21; refine HP.out.mono ?_; rintro e w1 ⟨rfl, V1, hs1, hk1, _⟩; have H1 := Lib.hid (H.out.stacked hk1 hs1); have q1 : w1.cell? ⟨b.M, q / 64, none⟩ = some (.int .u64 (x : Int)) := (H1.out.met.cell (q / 64)).trans HXC.out; have q2 : w1.frozen? ⟨b.M, q / 64, none⟩ = false := H1.out.met.frozen (q / 64); have q3 : b.M < w1.heap.size := H1.out.met.lt; clear hs1 hk1; simp only [])
  go_region
  have hn := Lib.hid (((H1.out.marked HQ.out HX.out).later ((Below.refl _ _).alloc (Nat.le_refl _) (.cells #[.int .i64 (i : Int), .int .i64 (k : Int), .int .i64 0, .int .i64 0] 65))).drew)
  have hjb : Blk (((w1.setCell ⟨b.M, q / 64, none⟩ (.int .u64 ((x ||| 2 ^ (q % 64) : Nat) : Int))).alloc (.cells #[.int .i64 (i : Int), .int .i64 (k : Int), .int .i64 0, .int .i64 0] 65)).drew) w1.heap.size 65 [.int .i64 (i : Int), .int .i64 (k : Int), .int .i64 0, .int .i64 0] := by
    have := Blk.new (w1.setCell ⟨b.M, q / 64, none⟩ (.int .u64 ((x ||| 2 ^ (q % 64) : Nat) : Int))) 65 [.int .i64 (i : Int), .int .i64 (k : Int), .int .i64 0, .int .i64 0]
    rw [show (w1.setCell ⟨b.M, q / 64, none⟩ (.int .u64 ((x ||| 2 ^ (q % 64) : Nat) : Int))).heap.size = w1.heap.size from by simp [World.setCell]] at this
    exact this.drew
  clear q1 q2 q3 hms
  generalize ((w1.setCell ⟨b.M, q / 64, none⟩ (.int .u64 ((x ||| 2 ^ (q % 64) : Nat) : Int))).alloc (.cells #[.int .i64 (i : Int), .int .i64 (k : Int), .int .i64 0, .int .i64 0] 65)).drew = w2 at *
  have p0 : w2.cell? ⟨b.P, 0, none⟩ = some (.slice (some ⟨ab, ao, none⟩) n c) := hn.out.prog.cell 0
  have p1 : b.P < w2.heap.size := hn.out.prog.lt
  have j0 : w2.cell? ⟨w1.heap.size, 0, none⟩ = some (.int .i64 (i : Int)) := hjb.cell 0
  have j1 : w2.cell? ⟨w1.heap.size, 1, none⟩ = some (.int .i64 (k : Int)) := hjb.cell 1
  have j4 : w1.heap.size < w2.heap.size := hjb.lt
  have hrp2 := HRP.out.below hn.out.below
  have hab2 : ab < w2.heap.size := Nat.lt_of_lt_of_le hab hn.out.below.size
  obtain ⟨i0, i1, i2, i3, i4⟩ := hrp2.cells HV.out
  simp only [] at i0 i1 i2 i3 i4
  have HRP2 := Lib.hid hrp2
  have HJB := Lib.hid hjb
  have HNOT := Lib.hid (show ∀ g, w1.heap.size ≤ g → g ∉ (b.S :: V1.ownBlock.toList) from fun g hg hm => by
    simp only [List.mem_cons, Option.mem_toList] at hm
    rcases hm with e | e
    · obtain ⟨m, hb⟩ := H1.out.stk.blk
      have := hb.lt
      omega
    · have := (H1.out.stk.own.lt g e).2
      omega)
  clear hjb hrp2
  clear hmt
  have HNEW := Lib.hid (Blk.new w2 57 [.int .i64 5, .int .i64 ix, .int .i64 iy, .int .i64 iarg, .slice iA inn ic])
  have hbi : Below w2.heap.size w2 (w2.alloc (.cells #[.int .i64 5, .int .i64 ix, .int .i64 iy, .int .i64 iarg, .slice iA inn ic] 57)) := (Below.refl _ _).alloc (Nat.le_refl _) _
  have hb0 := Lib.hid (hn.out.below.trans (hbi.mono hn.out.below.size))
  go_wp2_with fail
  have e2 : (w2.alloc (.cells #[.int .i64 5, .int .i64 ix, .int .i64 iy, .int .i64 iarg, .slice iA inn ic] 57)).cell? ⟨w2.heap.size, 3, none⟩ = some (.int .i64 iarg) := HNEW.out.cell 3
  have HNEW2 := Lib.hid HNEW.out.drew
  have H2 := Lib.hid ((hn.out.later hbi).drew)
  have hb00 := Lib.hid (show w0.heap.size ≤ (w2.alloc (.cells #[.int .i64 5, .int .i64 ix, .int .i64 iy, .int .i64 iarg, .slice iA inn ic] 57)).drew.heap.size from H2.out.below.size)
  clear HNEW
  generalize w2.alloc (.cells #[.int .i64 5, .int .i64 ix, .int .i64 iy, .int .i64 iarg, .slice iA inn ic] 57) = w2a at *
  have HCR := Lib.hid (show Reads w2a.drew w2a.drew.heap.size 1 (some ⟨b.C, 0, none⟩) cl cl (s.caps.map (Value.int .i64)) from by
    have h1 := H2.out.capt.reads (size := 1) (n := cl) (c := cl) (Nat.le_refl _) (by omega) (by simp [HCL.out])
    rwa [List.take_of_length_le (by simp [HCL.out])] at h1)
  have HCLO := Lib.hid (clone_any (some ⟨b.C, 0, none⟩) cl cl s.caps w2a.drew (fun h => by cases h) HCR.out (by omega))
  refine wp_region_noPanic ?_
  go_region_with (go_at_call 25; (with_reducible refine HCLO.out.mono ?_); rintro e w3 ⟨cv, rfl, hown, hb3⟩; obtain ⟨cA, cc, rfl⟩ := own_shape hown; have H3 := Lib.hid (H2.out.later hb3); have d3 : w3.cell? ⟨w2.heap.size, 3, none⟩ = some (.int .i64 iarg) := (HNEW2.out.below hb3 HNEW2.out.lt).cell 3; have HOWN := Lib.hid hown; have r0 : w3.cell? ⟨b.R, 0, none⟩ = some (.bool false) := H3.out.found.cell 0; have r1 : w3.cell? ⟨b.R, 1, none⟩ = some (.slice none 0 0) := H3.out.found.cell 1; have r2 : w3.cell? ⟨b.R, 2, none⟩ = some (.int .i64 0) := H3.out.found.cell 2; have r3 : w3.cell? ⟨b.R, 3, none⟩ = some (.int .i64 0) := H3.out.found.cell 3; have s0 := H3.out.found.frozen 0; have s1 := H3.out.found.frozen 1; have s2 := H3.out.found.frozen 2; have s3 := H3.out.found.frozen 3; have s4 := H3.out.found.lt; clear hb3 hown; simp only [])
  all_goals
    refine NoPanic.normal ?_
    go_wp2_with fail
  all_goals
    have hr : some b.R ≠ (Value.slice cA s.caps.length cc).ownBlock := blk_apart HOWN.out H3.out.found (by decide)
    have hk := fun u0 u1 u2 u3 => (((Kept.setCell (w := w3) ⟨b.R, 0, none⟩ u0).trans (Kept.setCell ⟨b.R, 1, none⟩ u1)).trans (Kept.setCell ⟨b.R, 2, none⟩ u2)).trans (Kept.setCell ⟨b.R, 3, none⟩ u3)
    refine HK.out _ _ (.slice cA s.caps.length cc) rfl rfl rfl ⟨?_, ?_, ?_⟩
    · exact Below.kept H3.out.below (hk _ _ _ _) (by intro g hg; simp at hg; rw [hg]; exact H3.out.lo.R) H3.out.below.size
    · exact (((H3.out.found.set_ 0 (.bool true)).set_ 1 (.slice cA s.caps.length cc)).set_ 2 (.int .i64 iarg)).set_ 3 (.int .i64 ((s.steps : Int) + 1))
    · exact own_kept (own_lower HOWN.out hb00.out) (hk _ _ _ _) (by intro g hg hm; simp at hm; rw [hm] at hg; exact hr hg.symm)

end Go.Proofs.Ytclbbfkgdhmheaa
