/- pike.Run: a round of its loop, anchored or found. -/
import Derived.Test.YteiggbbljgkloaaQPikeR1
namespace Go.Proofs.Yteiggbbljgkloaa
open Go.RowKit Go.Proofs.Yteiggbbljgkloaa.Mach

set_option maxRecDepth 1000000 in
set_option maxHeartbeats 4000000 in
theorem pround_anch {x : Px} {p : Prg} {t : List Int} {L : List InV} {LV NV : Value} {met : List Nat} {now : List TV} {k k0 : Nat} {bits st : Int} {f : Option Fd} {w : World} {anch : Bool} {v8 : Value} {K : Act → World → Prop} {Q : Exit → Act → World → Prop} (u0 u4 u5 u6 u7 u9 u10 u13 u14 u15 u16 u17 u18 u19 u20 u21 u22 u23 u24 u25 u26 u27 u28 u29 u30 u31 u32 u33 u34 u35 u36 u37 u38 u39 u40 u41 u42 u43 u44 u45 u46 u47 u48 u49 u50 u51 u52 u53 u54 u55 u56 u57 u58 u59 u60 u61 u62 u63 u64 u65 u66 u67 u68 u69 u70 u71 u72 u73 u74 u75 u76 u77 u78 u79 u80 u81 u82 u83 u84 u85 u86 u87 u88 u89 u90 u91 u92 u93 u94 u95 u96 u97 u98 u99 u100 u101 u102 u103 u104 u105 u106 u107 u108 : Value) (hx : Kx x p t L) (h : Pk x LV NV met now k bits f st w)
    (hk : k ≤ x.nt) (hnt : x.nt ≤ 4194304) (hnow : now.length ≤ 20000) (hkk : ¬ ((k : Int) = (k0 : Int))) (ha : anch = true)
    (hC : ∀ (u0 u4 u5 u6 u7 u9 u10 u13 u14 u15 u16 u17 u18 u19 u20 u21 u22 u23 u24 u25 u26 u27 u28 u29 u30 u31 u32 u33 u34 u35 u36 u37 u38 u39 u40 u41 u42 u43 u44 u45 u46 u47 u48 u49 u50 u51 u52 u53 u54 u55 u56 u57 u58 u59 u60 u61 u62 u63 u64 u65 u66 u67 u68 u69 u70 u71 u72 u73 u74 u75 u76 u77 u78 u79 u80 u81 u82 u83 u84 u85 u86 u87 u88 u89 u90 u91 u92 u93 u94 u95 u96 u97 u98 u99 u100 u101 u102 u103 u104 u105 u106 u107 u108 : Value) (NV' : Value) (now' : List TV) (f' : Option Fd) (w' : World), PS x p t k now false f (k + 1) NV' now' f' w' → K ⟨#[u0, (.slice x.At x.nt x.ct), (.int .i64 (k0 : Int)), (.bool anch), u4, u5, u6, u7, v8, u9, u10, (.pointer (some ⟨x.rb, 0, none⟩)), NV', u13, u14, u15, u16, u17, u18, u19, u20, u21, u22, u23, u24, u25, u26, u27, u28, u29, u30, u31, u32, u33, u34, u35, u36, u37, u38, u39, u40, u41, u42, u43, u44, u45, u46, u47, u48, u49, u50, u51, u52, u53, u54, u55, u56, u57, u58, u59, u60, u61, u62, u63, u64, u65, u66, u67, u68, u69, u70, u71, u72, u73, u74, u75, u76, u77, u78, u79, u80, u81, u82, u83, u84, u85, u86, u87, u88, u89, u90, u91, u92, u93, u94, u95, u96, u97, u98, u99, u100, u101, u102, u103, u104, u105, u106, u107, u108], []⟩ w')
    (hB : ∀ (u0 u4 u5 u6 u7 u9 u10 u13 u14 u15 u16 u17 u18 u19 u20 u21 u22 u23 u24 u25 u26 u27 u28 u29 u30 u31 u32 u33 u34 u35 u36 u37 u38 u39 u40 u41 u42 u43 u44 u45 u46 u47 u48 u49 u50 u51 u52 u53 u54 u55 u56 u57 u58 u59 u60 u61 u62 u63 u64 u65 u66 u67 u68 u69 u70 u71 u72 u73 u74 u75 u76 u77 u78 u79 u80 u81 u82 u83 u84 u85 u86 u87 u88 u89 u90 u91 u92 u93 u94 u95 u96 u97 u98 u99 u100 u101 u102 u103 u104 u105 u106 u107 u108 : Value) (NV' : Value) (now' : List TV) (f' : Option Fd) (w' : World), PS x p t k now false f k NV' now' f' w' → now' = [] → (f'.isSome = true ∨ anch = true) → Q (.exit 0) ⟨#[u0, (.slice x.At x.nt x.ct), (.int .i64 (k0 : Int)), (.bool anch), u4, u5, u6, u7, v8, u9, u10, (.pointer (some ⟨x.rb, 0, none⟩)), NV', u13, u14, u15, u16, u17, u18, u19, u20, u21, u22, u23, u24, u25, u26, u27, u28, u29, u30, u31, u32, u33, u34, u35, u36, u37, u38, u39, u40, u41, u42, u43, u44, u45, u46, u47, u48, u49, u50, u51, u52, u53, u54, u55, u56, u57, u58, u59, u60, u61, u62, u63, u64, u65, u66, u67, u68, u69, u70, u71, u72, u73, u74, u75, u76, u77, u78, u79, u80, u81, u82, u83, u84, u85, u86, u87, u88, u89, u90, u91, u92, u93, u94, u95, u96, u97, u98, u99, u100, u101, u102, u103, u104, u105, u106, u107, u108], []⟩ w')
    : Code.wp Try.prog pikeBody (Exit.then K Q) ⟨#[u0, (.slice x.At x.nt x.ct), (.int .i64 (k0 : Int)), (.bool anch), u4, u5, u6, u7, v8, u9, u10, (.pointer (some ⟨x.rb, 0, none⟩)), NV, u13, u14, u15, u16, u17, u18, u19, u20, u21, u22, u23, u24, u25, u26, u27, u28, u29, u30, u31, u32, u33, u34, u35, u36, u37, u38, u39, u40, u41, u42, u43, u44, u45, u46, u47, u48, u49, u50, u51, u52, u53, u54, u55, u56, u57, u58, u59, u60, u61, u62, u63, u64, u65, u66, u67, u68, u69, u70, u71, u72, u73, u74, u75, u76, u77, u78, u79, u80, u81, u82, u83, u84, u85, u86, u87, u88, u89, u90, u91, u92, u93, u94, u95, u96, u97, u98, u99, u100, u101, u102, u103, u104, u105, u106, u107, u108], []⟩ w := by
  obtain ⟨NA, nc, rfl⟩ := own_shape h.own
  have hkn : (k : Int) ≤ (x.nt : Int) := by omega
  have g4 : w.cell? ⟨x.rb, 4, none⟩ = some (.int .i64 (k : Int)) := h.run.cell 4
  have g8 : w.cell? ⟨x.rb, 8, none⟩ = some (.bool f.isSome) := h.run.cell 8
  have g5 := h.run.lt
  subst ha
  have hkb : ((k : Int) == (k0 : Int)) = false := by rw [beq_eq_false_iff_ne]; exact hkk
  have HST := Lib.hid (step_any x p t L k f LV (.slice NA now.length nc) met now bits st w false hx hk h hnow)
  have HX := Lib.hid hx
  have HC := Lib.hid hC
  have HB := Lib.hid hB
  clear h hx hC hB hk hnow
  conv => arg 2; whnf
  go_upto_region 14 with (first | (go_at_call 28; refine HST.out.mono ?_; rintro e w5 ⟨LV5, NV5, met5, now5, st5, f5, r5, rfl, hpk5, hn5, hc5, hr0, hr1⟩; obtain ⟨A5, c5, rfl⟩ := own_shape hpk5.own; have HPK5 := Lib.hid hpk5; have HN5 := Lib.hid hn5; have HC5 := Lib.hid hc5; have HR0 := Lib.hid hr0; have HR1 := Lib.hid hr1; clear hpk5 hn5 hc5 hr0 hr1; simp only []))
  have HL5 := Lib.hid (show now5.length ≤ 20000 from by
    have h1 := HPK5.out.met.size
    have h2 := (head_of HX.out.chk).2.1
    have h3 := HX.out.nl
    have h4 := HN5.out
    omega)
  have g4 : w5.cell? ⟨x.rb, 4, none⟩ = some (.int .i64 (k : Int)) := HPK5.out.run.cell 4
  have g4f := HPK5.out.run.frozen 4
  have g8 : w5.cell? ⟨x.rb, 8, none⟩ = some (.bool f5.isSome) := HPK5.out.run.cell 8
  have g5 := HPK5.out.run.lt
  clear HST
  by_cases hz : now5.length = 0
  · obtain rfl := List.eq_nil_of_length_eq_zero hz
    have hz2 : (([] : List TV).length : Int) = 0 := rfl
    cases hf5 : f5.isSome with
    | true =>
      rw [hf5] at g8
      go_wp2_with fail
      apply HB.out (now' := []) (f' := f5)
      · exact ⟨LV5, met5, st5, r5, HPK5.out, HL5.out, HC5.out, HR0.out, HR1.out⟩
      · rfl
      · first | exact .inl hf5 | exact .inr trivial
    | false =>
      rw [hf5] at g8
      go_wp2_with fail
      apply HB.out (now' := []) (f' := f5)
      · exact ⟨LV5, met5, st5, r5, HPK5.out, HL5.out, HC5.out, HR0.out, HR1.out⟩
      · rfl
      · first | exact .inr rfl | exact .inr trivial
  · have hz2 : ¬ ((now5.length : Int) = 0) := by omega
    go_wp2_with fail
    apply HC.out
    exact ⟨LV5, met5, st5, r5, by have := HPK5.out.placed (k2 := k + 1) (z := (k : Int) + 1) (by omega); exact this, HL5.out, HC5.out, HR0.out, HR1.out⟩

set_option maxRecDepth 1000000 in
set_option maxHeartbeats 4000000 in
theorem pround_had {x : Px} {p : Prg} {t : List Int} {L : List InV} {LV NV : Value} {met : List Nat} {now : List TV} {k k0 : Nat} {bits st : Int} {f : Option Fd} {w : World} {anch : Bool} {v8 : Value} {K : Act → World → Prop} {Q : Exit → Act → World → Prop} (u0 u4 u5 u6 u7 u9 u10 u13 u14 u15 u16 u17 u18 u19 u20 u21 u22 u23 u24 u25 u26 u27 u28 u29 u30 u31 u32 u33 u34 u35 u36 u37 u38 u39 u40 u41 u42 u43 u44 u45 u46 u47 u48 u49 u50 u51 u52 u53 u54 u55 u56 u57 u58 u59 u60 u61 u62 u63 u64 u65 u66 u67 u68 u69 u70 u71 u72 u73 u74 u75 u76 u77 u78 u79 u80 u81 u82 u83 u84 u85 u86 u87 u88 u89 u90 u91 u92 u93 u94 u95 u96 u97 u98 u99 u100 u101 u102 u103 u104 u105 u106 u107 u108 : Value) (hx : Kx x p t L) (h : Pk x LV NV met now k bits f st w)
    (hk : k ≤ x.nt) (hnt : x.nt ≤ 4194304) (hnow : now.length ≤ 20000) (hkk : ¬ ((k : Int) = (k0 : Int))) (ha : anch = false) (hfs : f.isSome = true)
    (hC : ∀ (u0 u4 u5 u6 u7 u9 u10 u13 u14 u15 u16 u17 u18 u19 u20 u21 u22 u23 u24 u25 u26 u27 u28 u29 u30 u31 u32 u33 u34 u35 u36 u37 u38 u39 u40 u41 u42 u43 u44 u45 u46 u47 u48 u49 u50 u51 u52 u53 u54 u55 u56 u57 u58 u59 u60 u61 u62 u63 u64 u65 u66 u67 u68 u69 u70 u71 u72 u73 u74 u75 u76 u77 u78 u79 u80 u81 u82 u83 u84 u85 u86 u87 u88 u89 u90 u91 u92 u93 u94 u95 u96 u97 u98 u99 u100 u101 u102 u103 u104 u105 u106 u107 u108 : Value) (NV' : Value) (now' : List TV) (f' : Option Fd) (w' : World), PS x p t k now false f (k + 1) NV' now' f' w' → K ⟨#[u0, (.slice x.At x.nt x.ct), (.int .i64 (k0 : Int)), (.bool anch), u4, u5, u6, u7, v8, u9, u10, (.pointer (some ⟨x.rb, 0, none⟩)), NV', u13, u14, u15, u16, u17, u18, u19, u20, u21, u22, u23, u24, u25, u26, u27, u28, u29, u30, u31, u32, u33, u34, u35, u36, u37, u38, u39, u40, u41, u42, u43, u44, u45, u46, u47, u48, u49, u50, u51, u52, u53, u54, u55, u56, u57, u58, u59, u60, u61, u62, u63, u64, u65, u66, u67, u68, u69, u70, u71, u72, u73, u74, u75, u76, u77, u78, u79, u80, u81, u82, u83, u84, u85, u86, u87, u88, u89, u90, u91, u92, u93, u94, u95, u96, u97, u98, u99, u100, u101, u102, u103, u104, u105, u106, u107, u108], []⟩ w')
    (hB : ∀ (u0 u4 u5 u6 u7 u9 u10 u13 u14 u15 u16 u17 u18 u19 u20 u21 u22 u23 u24 u25 u26 u27 u28 u29 u30 u31 u32 u33 u34 u35 u36 u37 u38 u39 u40 u41 u42 u43 u44 u45 u46 u47 u48 u49 u50 u51 u52 u53 u54 u55 u56 u57 u58 u59 u60 u61 u62 u63 u64 u65 u66 u67 u68 u69 u70 u71 u72 u73 u74 u75 u76 u77 u78 u79 u80 u81 u82 u83 u84 u85 u86 u87 u88 u89 u90 u91 u92 u93 u94 u95 u96 u97 u98 u99 u100 u101 u102 u103 u104 u105 u106 u107 u108 : Value) (NV' : Value) (now' : List TV) (f' : Option Fd) (w' : World), PS x p t k now false f k NV' now' f' w' → now' = [] → (f'.isSome = true ∨ anch = true) → Q (.exit 0) ⟨#[u0, (.slice x.At x.nt x.ct), (.int .i64 (k0 : Int)), (.bool anch), u4, u5, u6, u7, v8, u9, u10, (.pointer (some ⟨x.rb, 0, none⟩)), NV', u13, u14, u15, u16, u17, u18, u19, u20, u21, u22, u23, u24, u25, u26, u27, u28, u29, u30, u31, u32, u33, u34, u35, u36, u37, u38, u39, u40, u41, u42, u43, u44, u45, u46, u47, u48, u49, u50, u51, u52, u53, u54, u55, u56, u57, u58, u59, u60, u61, u62, u63, u64, u65, u66, u67, u68, u69, u70, u71, u72, u73, u74, u75, u76, u77, u78, u79, u80, u81, u82, u83, u84, u85, u86, u87, u88, u89, u90, u91, u92, u93, u94, u95, u96, u97, u98, u99, u100, u101, u102, u103, u104, u105, u106, u107, u108], []⟩ w')
    : Code.wp Try.prog pikeBody (Exit.then K Q) ⟨#[u0, (.slice x.At x.nt x.ct), (.int .i64 (k0 : Int)), (.bool anch), u4, u5, u6, u7, v8, u9, u10, (.pointer (some ⟨x.rb, 0, none⟩)), NV, u13, u14, u15, u16, u17, u18, u19, u20, u21, u22, u23, u24, u25, u26, u27, u28, u29, u30, u31, u32, u33, u34, u35, u36, u37, u38, u39, u40, u41, u42, u43, u44, u45, u46, u47, u48, u49, u50, u51, u52, u53, u54, u55, u56, u57, u58, u59, u60, u61, u62, u63, u64, u65, u66, u67, u68, u69, u70, u71, u72, u73, u74, u75, u76, u77, u78, u79, u80, u81, u82, u83, u84, u85, u86, u87, u88, u89, u90, u91, u92, u93, u94, u95, u96, u97, u98, u99, u100, u101, u102, u103, u104, u105, u106, u107, u108], []⟩ w := by
  obtain ⟨NA, nc, rfl⟩ := own_shape h.own
  have hkn : (k : Int) ≤ (x.nt : Int) := by omega
  have g4 : w.cell? ⟨x.rb, 4, none⟩ = some (.int .i64 (k : Int)) := h.run.cell 4
  have g8 : w.cell? ⟨x.rb, 8, none⟩ = some (.bool f.isSome) := h.run.cell 8
  have g5 := h.run.lt
  subst ha
  rw [hfs] at g8
  have hkb : ((k : Int) == (k0 : Int)) = false := by rw [beq_eq_false_iff_ne]; exact hkk
  have HST := Lib.hid (step_any x p t L k f LV (.slice NA now.length nc) met now bits st w false hx hk h hnow)
  have HX := Lib.hid hx
  have HC := Lib.hid hC
  have HB := Lib.hid hB
  clear h hx hC hB hk hnow
  conv => arg 2; whnf
  go_upto_region 14 with (first | (go_at_call 28; refine HST.out.mono ?_; rintro e w5 ⟨LV5, NV5, met5, now5, st5, f5, r5, rfl, hpk5, hn5, hc5, hr0, hr1⟩; obtain ⟨A5, c5, rfl⟩ := own_shape hpk5.own; have HPK5 := Lib.hid hpk5; have HN5 := Lib.hid hn5; have HC5 := Lib.hid hc5; have HR0 := Lib.hid hr0; have HR1 := Lib.hid hr1; clear hpk5 hn5 hc5 hr0 hr1; simp only []))
  have HL5 := Lib.hid (show now5.length ≤ 20000 from by
    have h1 := HPK5.out.met.size
    have h2 := (head_of HX.out.chk).2.1
    have h3 := HX.out.nl
    have h4 := HN5.out
    omega)
  have g4 : w5.cell? ⟨x.rb, 4, none⟩ = some (.int .i64 (k : Int)) := HPK5.out.run.cell 4
  have g4f := HPK5.out.run.frozen 4
  have g8 : w5.cell? ⟨x.rb, 8, none⟩ = some (.bool f5.isSome) := HPK5.out.run.cell 8
  have g5 := HPK5.out.run.lt
  clear HST
  by_cases hz : now5.length = 0
  · obtain rfl := List.eq_nil_of_length_eq_zero hz
    have hz2 : (([] : List TV).length : Int) = 0 := rfl
    cases hf5 : f5.isSome with
    | true =>
      rw [hf5] at g8
      go_wp2_with fail
      apply HB.out (now' := []) (f' := f5)
      · exact ⟨LV5, met5, st5, r5, HPK5.out, HL5.out, HC5.out, HR0.out, HR1.out⟩
      · rfl
      · first | exact .inl hf5 | exact .inr trivial
    | false =>
      rw [hf5] at g8
      go_wp2_with fail
      apply HC.out
      exact ⟨LV5, met5, st5, r5, by have := HPK5.out.placed (k2 := k + 1) (z := (k : Int) + 1) (by omega); exact this, HL5.out, HC5.out, HR0.out, HR1.out⟩
  · have hz2 : ¬ ((now5.length : Int) = 0) := by omega
    go_wp2_with fail
    apply HC.out
    exact ⟨LV5, met5, st5, r5, by have := HPK5.out.placed (k2 := k + 1) (z := (k : Int) + 1) (by omega); exact this, HL5.out, HC5.out, HR0.out, HR1.out⟩
end Go.Proofs.Yteiggbbljgkloaa
/- pike.Run: a round of its loop, nothing found. -/
namespace Go.Proofs.Yteiggbbljgkloaa
open Go.RowKit Go.Proofs.Yteiggbbljgkloaa.Mach

set_option maxRecDepth 1000000 in
set_option maxHeartbeats 4000000 in
theorem pround_open {x : Px} {p : Prg} {t : List Int} {L : List InV} {LV NV : Value} {met : List Nat} {now : List TV} {k k0 : Nat} {bits st : Int} {f : Option Fd} {w : World} {anch : Bool} {v8 : Value} {K : Act → World → Prop} {Q : Exit → Act → World → Prop} (u0 u4 u5 u6 u7 u9 u10 u13 u14 u15 u16 u17 u18 u19 u20 u21 u22 u23 u24 u25 u26 u27 u28 u29 u30 u31 u32 u33 u34 u35 u36 u37 u38 u39 u40 u41 u42 u43 u44 u45 u46 u47 u48 u49 u50 u51 u52 u53 u54 u55 u56 u57 u58 u59 u60 u61 u62 u63 u64 u65 u66 u67 u68 u69 u70 u71 u72 u73 u74 u75 u76 u77 u78 u79 u80 u81 u82 u83 u84 u85 u86 u87 u88 u89 u90 u91 u92 u93 u94 u95 u96 u97 u98 u99 u100 u101 u102 u103 u104 u105 u106 u107 u108 : Value) (hx : Kx x p t L) (h : Pk x LV NV met now k bits f st w)
    (hk : k ≤ x.nt) (hnt : x.nt ≤ 4194304) (hnow : now.length ≤ 20000) (hkk : ¬ ((k : Int) = (k0 : Int))) (ha : anch = false) (hfs : f.isSome = false)
    (hC : ∀ (u0 u4 u5 u6 u7 u9 u10 u13 u14 u15 u16 u17 u18 u19 u20 u21 u22 u23 u24 u25 u26 u27 u28 u29 u30 u31 u32 u33 u34 u35 u36 u37 u38 u39 u40 u41 u42 u43 u44 u45 u46 u47 u48 u49 u50 u51 u52 u53 u54 u55 u56 u57 u58 u59 u60 u61 u62 u63 u64 u65 u66 u67 u68 u69 u70 u71 u72 u73 u74 u75 u76 u77 u78 u79 u80 u81 u82 u83 u84 u85 u86 u87 u88 u89 u90 u91 u92 u93 u94 u95 u96 u97 u98 u99 u100 u101 u102 u103 u104 u105 u106 u107 u108 : Value) (NV' : Value) (now' : List TV) (f' : Option Fd) (w' : World), PS x p t k now true f (k + 1) NV' now' f' w' → K ⟨#[u0, (.slice x.At x.nt x.ct), (.int .i64 (k0 : Int)), (.bool anch), u4, u5, u6, u7, v8, u9, u10, (.pointer (some ⟨x.rb, 0, none⟩)), NV', u13, u14, u15, u16, u17, u18, u19, u20, u21, u22, u23, u24, u25, u26, u27, u28, u29, u30, u31, u32, u33, u34, u35, u36, u37, u38, u39, u40, u41, u42, u43, u44, u45, u46, u47, u48, u49, u50, u51, u52, u53, u54, u55, u56, u57, u58, u59, u60, u61, u62, u63, u64, u65, u66, u67, u68, u69, u70, u71, u72, u73, u74, u75, u76, u77, u78, u79, u80, u81, u82, u83, u84, u85, u86, u87, u88, u89, u90, u91, u92, u93, u94, u95, u96, u97, u98, u99, u100, u101, u102, u103, u104, u105, u106, u107, u108], []⟩ w')
    (hB : ∀ (u0 u4 u5 u6 u7 u9 u10 u13 u14 u15 u16 u17 u18 u19 u20 u21 u22 u23 u24 u25 u26 u27 u28 u29 u30 u31 u32 u33 u34 u35 u36 u37 u38 u39 u40 u41 u42 u43 u44 u45 u46 u47 u48 u49 u50 u51 u52 u53 u54 u55 u56 u57 u58 u59 u60 u61 u62 u63 u64 u65 u66 u67 u68 u69 u70 u71 u72 u73 u74 u75 u76 u77 u78 u79 u80 u81 u82 u83 u84 u85 u86 u87 u88 u89 u90 u91 u92 u93 u94 u95 u96 u97 u98 u99 u100 u101 u102 u103 u104 u105 u106 u107 u108 : Value) (NV' : Value) (now' : List TV) (f' : Option Fd) (w' : World), PS x p t k now true f k NV' now' f' w' → now' = [] → (f'.isSome = true ∨ anch = true) → Q (.exit 0) ⟨#[u0, (.slice x.At x.nt x.ct), (.int .i64 (k0 : Int)), (.bool anch), u4, u5, u6, u7, v8, u9, u10, (.pointer (some ⟨x.rb, 0, none⟩)), NV', u13, u14, u15, u16, u17, u18, u19, u20, u21, u22, u23, u24, u25, u26, u27, u28, u29, u30, u31, u32, u33, u34, u35, u36, u37, u38, u39, u40, u41, u42, u43, u44, u45, u46, u47, u48, u49, u50, u51, u52, u53, u54, u55, u56, u57, u58, u59, u60, u61, u62, u63, u64, u65, u66, u67, u68, u69, u70, u71, u72, u73, u74, u75, u76, u77, u78, u79, u80, u81, u82, u83, u84, u85, u86, u87, u88, u89, u90, u91, u92, u93, u94, u95, u96, u97, u98, u99, u100, u101, u102, u103, u104, u105, u106, u107, u108], []⟩ w')
    : Code.wp Try.prog pikeBody (Exit.then K Q) ⟨#[u0, (.slice x.At x.nt x.ct), (.int .i64 (k0 : Int)), (.bool anch), u4, u5, u6, u7, v8, u9, u10, (.pointer (some ⟨x.rb, 0, none⟩)), NV, u13, u14, u15, u16, u17, u18, u19, u20, u21, u22, u23, u24, u25, u26, u27, u28, u29, u30, u31, u32, u33, u34, u35, u36, u37, u38, u39, u40, u41, u42, u43, u44, u45, u46, u47, u48, u49, u50, u51, u52, u53, u54, u55, u56, u57, u58, u59, u60, u61, u62, u63, u64, u65, u66, u67, u68, u69, u70, u71, u72, u73, u74, u75, u76, u77, u78, u79, u80, u81, u82, u83, u84, u85, u86, u87, u88, u89, u90, u91, u92, u93, u94, u95, u96, u97, u98, u99, u100, u101, u102, u103, u104, u105, u106, u107, u108], []⟩ w := by
  obtain ⟨NA, nc, rfl⟩ := own_shape h.own
  have hkn : (k : Int) ≤ (x.nt : Int) := by omega
  have g4 : w.cell? ⟨x.rb, 4, none⟩ = some (.int .i64 (k : Int)) := h.run.cell 4
  have g8 : w.cell? ⟨x.rb, 8, none⟩ = some (.bool f.isSome) := h.run.cell 8
  have g5 := h.run.lt
  subst ha
  rw [hfs] at g8
  have HST := Lib.hid (step_any x p t L k f LV (.slice NA now.length nc) met now bits st w true hx hk h hnow)
  have HX := Lib.hid hx
  have HC := Lib.hid hC
  have HB := Lib.hid hB
  clear h hx hC hB hk hnow
  conv => arg 2; whnf
  go_upto_region 14 with (first | (go_at_call 28; refine HST.out.mono ?_; rintro e w5 ⟨LV5, NV5, met5, now5, st5, f5, r5, rfl, hpk5, hn5, hc5, hr0, hr1⟩; obtain ⟨A5, c5, rfl⟩ := own_shape hpk5.own; have HPK5 := Lib.hid hpk5; have HN5 := Lib.hid hn5; have HC5 := Lib.hid hc5; have HR0 := Lib.hid hr0; have HR1 := Lib.hid hr1; clear hpk5 hn5 hc5 hr0 hr1; simp only []))
  have HL5 := Lib.hid (show now5.length ≤ 20000 from by
    have h1 := HPK5.out.met.size
    have h2 := (head_of HX.out.chk).2.1
    have h3 := HX.out.nl
    have h4 := HN5.out
    omega)
  have g4 : w5.cell? ⟨x.rb, 4, none⟩ = some (.int .i64 (k : Int)) := HPK5.out.run.cell 4
  have g4f := HPK5.out.run.frozen 4
  have g8 : w5.cell? ⟨x.rb, 8, none⟩ = some (.bool f5.isSome) := HPK5.out.run.cell 8
  have g5 := HPK5.out.run.lt
  clear HST
  by_cases hz : now5.length = 0
  · obtain rfl := List.eq_nil_of_length_eq_zero hz
    have hz2 : (([] : List TV).length : Int) = 0 := rfl
    cases hf5 : f5.isSome with
    | true =>
      rw [hf5] at g8
      go_wp2_with fail
      apply HB.out (now' := []) (f' := f5)
      · exact ⟨LV5, met5, st5, r5, HPK5.out, HL5.out, HC5.out, HR0.out, HR1.out⟩
      · rfl
      · first | exact .inl hf5 | exact .inr trivial
    | false =>
      rw [hf5] at g8
      go_wp2_with fail
      apply HC.out
      exact ⟨LV5, met5, st5, r5, by have := HPK5.out.placed (k2 := k + 1) (z := (k : Int) + 1) (by omega); exact this, HL5.out, HC5.out, HR0.out, HR1.out⟩
  · have hz2 : ¬ ((now5.length : Int) = 0) := by omega
    go_wp2_with fail
    apply HC.out
    exact ⟨LV5, met5, st5, r5, by have := HPK5.out.placed (k2 := k + 1) (z := (k : Int) + 1) (by omega); exact this, HL5.out, HC5.out, HR0.out, HR1.out⟩
end Go.Proofs.Yteiggbbljgkloaa
