/- pike.Run: its loop. -/
import Derived.Test.YteiggbbljgkloaaQPikeR2
namespace Go.Proofs.Yteiggbbljgkloaa
open Go.RowKit Go.Proofs.Yteiggbbljgkloaa.Mach

/-- Lock step, as far as a place. -/
def Gp (p : Prg) (t : List Int) (k0 : Nat) (anch : Bool) (k : Nat) (now : List (Nat × List Int)) (f : Option (List Int × Int)) : Prop :=
  (k ≤ t.length ∧ ∀ r, Lock p t k (now ++ if (k == k0) || (!anch && !f.isSome) then [startTh p] else []) (!anch && !f.isSome) r → Lock p t k0 [startTh p] (!anch) (r <|> f)) ∨ (k = t.length + 1 ∧ Lock p t k0 [startTh p] (!anch) f)
theorem Gp.start {p : Prg} {t : List Int} {k0 : Nat} {anch : Bool} (h : k0 ≤ t.length) : Gp p t k0 anch k0 [] none := by
  refine .inl ⟨h, fun r hr => ?_⟩
  have e : (r <|> (none : Option (List Int × Int))) = r := by cases r <;> rfl
  rw [e]
  simpa using hr
theorem Gp.next {p : Prg} {t : List Int} {k0 k : Nat} {anch : Bool} {now E : List (Nat × List Int)} {f f' m : Option (List Int × Int)} {V : Nat → Bool} (h : Gp p t k0 anch k now f) (hk : k ≤ t.length) (hk0 : k0 ≤ k)
    (hc : Clo p t k (now ++ if (k == k0) || (!anch && !f.isSome) then [startTh p] else []) (fun _ => false) E m V) (h0 : m = none → f' = f) (h1 : ∀ q, m = some q → f' = some q) : Gp p t k0 anch (k + 1) E f' := by
  rcases h with ⟨_, h⟩ | ⟨h, _⟩
  · have hf : f' = (m <|> f) := by
      cases m with
      | none => rw [h0 rfl]; rfl
      | some q => rw [h1 q rfl]; rfl
    rcases Nat.lt_or_ge k t.length with hlt | hge
    · refine .inl ⟨hlt, fun r hr => ?_⟩
      have hne : (k + 1 == k0) = false := by rw [beq_eq_false_iff_ne]; omega
      have hop : (!anch && !f'.isSome) = ((!anch && !f.isSome) && m.isNone) := by rw [hf]; cases anch <;> cases m <;> cases f <;> rfl
      rw [hne, Bool.false_or, hop] at hr
      have := h _ (.next hlt hc hr)
      have e : ((r <|> m) <|> f) = (r <|> f') := by rw [hf]; cases r <;> cases m <;> cases f <;> rfl
      rwa [e] at this
    · obtain rfl : k = t.length := by omega
      refine .inr ⟨rfl, ?_⟩
      rw [hf]
      exact h _ (.last hc)
  · omega
theorem Gp.stop {p : Prg} {t : List Int} {k0 k : Nat} {anch : Bool} {f : Option (List Int × Int)} (h : Gp p t k0 anch k [] f) (hk0 : k0 < k) (hs : f.isSome = true ∨ anch = true) : Lock p t k0 [startTh p] (!anch) f := by
  rcases h with ⟨h1, h⟩ | ⟨_, h⟩
  · have hne : (k == k0) = false := by rw [beq_eq_false_iff_ne]; omega
    have hop : (!anch && !f.isSome) = false := by rcases hs with e | e <;> rw [e] <;> cases anch <;> rfl
    rw [hne, hop] at h
    have := h none (Lock.nil (t.length - k) k (by omega))
    exact this
  · exact h
theorem Gp.end_ {p : Prg} {t : List Int} {k0 k : Nat} {anch : Bool} {l : List (Nat × List Int)} {f : Option (List Int × Int)} (h : Gp p t k0 anch k l f) (hk : t.length < k) : Lock p t k0 [startTh p] (!anch) f := by
  rcases h with ⟨h1, _⟩ | ⟨_, h⟩
  · omega
  · exact h

def KR (x : Px) (p : Prg) (t : List Int) (k0 : Nat) (anch : Bool) (m : Nat) (NV : Value) (w : World) : Prop :=
  ∃ (k : Nat) (LV : Value) (met : List Nat) (now : List TV) (bits st : Int) (f : Option Fd), k0 ≤ k ∧ k ≤ x.nt + 1 ∧ x.nt + 1 - k ≤ m ∧ now.length ≤ 20000 ∧ Pk x LV NV met now k bits f st w ∧ Gp p t k0 anch k (prs now) (f.map Fd.res)
def KD (x : Px) (p : Prg) (t : List Int) (k0 : Nat) (anch : Bool) (NV : Value) (w : World) : Prop :=
  ∃ (k : Nat) (LV : Value) (met : List Nat) (now : List TV) (bits st : Int) (f : Option Fd), Pk x LV NV met now k bits f st w ∧ Lock p t k0 [startTh p] (!anch) (f.map Fd.res)
set_option maxRecDepth 1000000 in
def KI (x : Px) (p : Prg) (t : List Int) (k0 : Nat) (anch : Bool) (v8 : Value) (m : Nat) (a : Act) (w : World) : Prop :=
  ∃ u0 : Value, ∃ u4 : Value, ∃ u5 : Value, ∃ u6 : Value, ∃ u7 : Value, ∃ u9 : Value, ∃ u10 : Value, ∃ u13 : Value, ∃ u14 : Value, ∃ u15 : Value, ∃ u16 : Value, ∃ u17 : Value, ∃ u18 : Value, ∃ u19 : Value, ∃ u20 : Value, ∃ u21 : Value, ∃ u22 : Value, ∃ u23 : Value, ∃ u24 : Value, ∃ u25 : Value, ∃ u26 : Value, ∃ u27 : Value, ∃ u28 : Value, ∃ u29 : Value, ∃ u30 : Value, ∃ u31 : Value, ∃ u32 : Value, ∃ u33 : Value, ∃ u34 : Value, ∃ u35 : Value, ∃ u36 : Value, ∃ u37 : Value, ∃ u38 : Value, ∃ u39 : Value, ∃ u40 : Value, ∃ u41 : Value, ∃ u42 : Value, ∃ u43 : Value, ∃ u44 : Value, ∃ u45 : Value, ∃ u46 : Value, ∃ u47 : Value, ∃ u48 : Value, ∃ u49 : Value, ∃ u50 : Value, ∃ u51 : Value, ∃ u52 : Value, ∃ u53 : Value, ∃ u54 : Value, ∃ u55 : Value, ∃ u56 : Value, ∃ u57 : Value, ∃ u58 : Value, ∃ u59 : Value, ∃ u60 : Value, ∃ u61 : Value, ∃ u62 : Value, ∃ u63 : Value, ∃ u64 : Value, ∃ u65 : Value, ∃ u66 : Value, ∃ u67 : Value, ∃ u68 : Value, ∃ u69 : Value, ∃ u70 : Value, ∃ u71 : Value, ∃ u72 : Value, ∃ u73 : Value, ∃ u74 : Value, ∃ u75 : Value, ∃ u76 : Value, ∃ u77 : Value, ∃ u78 : Value, ∃ u79 : Value, ∃ u80 : Value, ∃ u81 : Value, ∃ u82 : Value, ∃ u83 : Value, ∃ u84 : Value, ∃ u85 : Value, ∃ u86 : Value, ∃ u87 : Value, ∃ u88 : Value, ∃ u89 : Value, ∃ u90 : Value, ∃ u91 : Value, ∃ u92 : Value, ∃ u93 : Value, ∃ u94 : Value, ∃ u95 : Value, ∃ u96 : Value, ∃ u97 : Value, ∃ u98 : Value, ∃ u99 : Value, ∃ u100 : Value, ∃ u101 : Value, ∃ u102 : Value, ∃ u103 : Value, ∃ u104 : Value, ∃ u105 : Value, ∃ u106 : Value, ∃ u107 : Value, ∃ u108 : Value, ∃ NV : Value, KR x p t k0 anch m NV w ∧ a = ⟨#[u0, (.slice x.At x.nt x.ct), (.int .i64 (k0 : Int)), (.bool anch), u4, u5, u6, u7, v8, u9, u10, (.pointer (some ⟨x.rb, 0, none⟩)), NV, u13, u14, u15, u16, u17, u18, u19, u20, u21, u22, u23, u24, u25, u26, u27, u28, u29, u30, u31, u32, u33, u34, u35, u36, u37, u38, u39, u40, u41, u42, u43, u44, u45, u46, u47, u48, u49, u50, u51, u52, u53, u54, u55, u56, u57, u58, u59, u60, u61, u62, u63, u64, u65, u66, u67, u68, u69, u70, u71, u72, u73, u74, u75, u76, u77, u78, u79, u80, u81, u82, u83, u84, u85, u86, u87, u88, u89, u90, u91, u92, u93, u94, u95, u96, u97, u98, u99, u100, u101, u102, u103, u104, u105, u106, u107, u108], []⟩
theorem PS.gp {x : Px} {p : Prg} {t : List Int} {L : List InV} {k k0 k2 : Nat} {anch bg : Bool} {now now2 : List TV} {f f2 : Option Fd} {NV : Value} {w : World} (h : PS x p t k now bg f k2 NV now2 f2 w) (hx : Kx x p t L) (hk : k ≤ x.nt) (hk0 : k0 ≤ k) (hbg : bg = ((k == k0) || (!anch && !f.isSome))) (hg : Gp p t k0 anch k (prs now) (f.map Fd.res)) : Gp p t k0 anch (k + 1) (prs now2) (f2.map Fd.res) := by
  obtain ⟨LV, met, st, r, hp, hl, hc, h0, h1⟩ := h
  refine hg.next (by rw [hx.tl]; exact hk) hk0 (by rw [Option.isSome_map, ← hbg]; exact hc) (fun e => by rw [h0 e]) (fun q hq => ?_)
  obtain ⟨d, hd, he⟩ := h1 q hq
  rw [hd, ← he]; rfl
set_option maxRecDepth 1000000 in
set_option maxHeartbeats 4000000 in
theorem pike_round {x : Px} {p : Prg} {t : List Int} {k0 : Nat} {anch : Bool} {v8 : Value} {L : List InV} (hx : Kx x p t L) {Q : Exit → Act → World → Prop}
    (h1 : ∀ (u0 u4 u5 u6 u7 u9 u10 u13 u14 u15 u16 u17 u18 u19 u20 u21 u22 u23 u24 u25 u26 u27 u28 u29 u30 u31 u32 u33 u34 u35 u36 u37 u38 u39 u40 u41 u42 u43 u44 u45 u46 u47 u48 u49 u50 u51 u52 u53 u54 u55 u56 u57 u58 u59 u60 u61 u62 u63 u64 u65 u66 u67 u68 u69 u70 u71 u72 u73 u74 u75 u76 u77 u78 u79 u80 u81 u82 u83 u84 u85 u86 u87 u88 u89 u90 u91 u92 u93 u94 u95 u96 u97 u98 u99 u100 u101 u102 u103 u104 u105 u106 u107 u108 : Value) (NV : Value) (w' : World), KD x p t k0 anch NV w' → Q (.exit 0) ⟨#[u0, (.slice x.At x.nt x.ct), (.int .i64 (k0 : Int)), (.bool anch), u4, u5, u6, u7, v8, u9, u10, (.pointer (some ⟨x.rb, 0, none⟩)), NV, u13, u14, u15, u16, u17, u18, u19, u20, u21, u22, u23, u24, u25, u26, u27, u28, u29, u30, u31, u32, u33, u34, u35, u36, u37, u38, u39, u40, u41, u42, u43, u44, u45, u46, u47, u48, u49, u50, u51, u52, u53, u54, u55, u56, u57, u58, u59, u60, u61, u62, u63, u64, u65, u66, u67, u68, u69, u70, u71, u72, u73, u74, u75, u76, u77, u78, u79, u80, u81, u82, u83, u84, u85, u86, u87, u88, u89, u90, u91, u92, u93, u94, u95, u96, u97, u98, u99, u100, u101, u102, u103, u104, u105, u106, u107, u108], []⟩ w')
    (m : Nat) (a : Act) (w : World) (hI : KI x p t k0 anch v8 m a w)
    : Code.wp Try.prog pikeBody (Exit.then (fun a' w' => ∃ n', n' < m ∧ KI x p t k0 anch v8 n' a' w') Q) a w := by
  unfold KI at hI
  obtain ⟨u0, hI⟩ := hI
  obtain ⟨u4, hI⟩ := hI
  obtain ⟨u5, hI⟩ := hI
  obtain ⟨u6, hI⟩ := hI
  obtain ⟨u7, hI⟩ := hI
  obtain ⟨u9, hI⟩ := hI
  obtain ⟨u10, hI⟩ := hI
  obtain ⟨u13, hI⟩ := hI
  obtain ⟨u14, hI⟩ := hI
  obtain ⟨u15, hI⟩ := hI
  obtain ⟨u16, hI⟩ := hI
  obtain ⟨u17, hI⟩ := hI
  obtain ⟨u18, hI⟩ := hI
  obtain ⟨u19, hI⟩ := hI
  obtain ⟨u20, hI⟩ := hI
  obtain ⟨u21, hI⟩ := hI
  obtain ⟨u22, hI⟩ := hI
  obtain ⟨u23, hI⟩ := hI
  obtain ⟨u24, hI⟩ := hI
  obtain ⟨u25, hI⟩ := hI
  obtain ⟨u26, hI⟩ := hI
  obtain ⟨u27, hI⟩ := hI
  obtain ⟨u28, hI⟩ := hI
  obtain ⟨u29, hI⟩ := hI
  obtain ⟨u30, hI⟩ := hI
  obtain ⟨u31, hI⟩ := hI
  obtain ⟨u32, hI⟩ := hI
  obtain ⟨u33, hI⟩ := hI
  obtain ⟨u34, hI⟩ := hI
  obtain ⟨u35, hI⟩ := hI
  obtain ⟨u36, hI⟩ := hI
  obtain ⟨u37, hI⟩ := hI
  obtain ⟨u38, hI⟩ := hI
  obtain ⟨u39, hI⟩ := hI
  obtain ⟨u40, hI⟩ := hI
  obtain ⟨u41, hI⟩ := hI
  obtain ⟨u42, hI⟩ := hI
  obtain ⟨u43, hI⟩ := hI
  obtain ⟨u44, hI⟩ := hI
  obtain ⟨u45, hI⟩ := hI
  obtain ⟨u46, hI⟩ := hI
  obtain ⟨u47, hI⟩ := hI
  obtain ⟨u48, hI⟩ := hI
  obtain ⟨u49, hI⟩ := hI
  obtain ⟨u50, hI⟩ := hI
  obtain ⟨u51, hI⟩ := hI
  obtain ⟨u52, hI⟩ := hI
  obtain ⟨u53, hI⟩ := hI
  obtain ⟨u54, hI⟩ := hI
  obtain ⟨u55, hI⟩ := hI
  obtain ⟨u56, hI⟩ := hI
  obtain ⟨u57, hI⟩ := hI
  obtain ⟨u58, hI⟩ := hI
  obtain ⟨u59, hI⟩ := hI
  obtain ⟨u60, hI⟩ := hI
  obtain ⟨u61, hI⟩ := hI
  obtain ⟨u62, hI⟩ := hI
  obtain ⟨u63, hI⟩ := hI
  obtain ⟨u64, hI⟩ := hI
  obtain ⟨u65, hI⟩ := hI
  obtain ⟨u66, hI⟩ := hI
  obtain ⟨u67, hI⟩ := hI
  obtain ⟨u68, hI⟩ := hI
  obtain ⟨u69, hI⟩ := hI
  obtain ⟨u70, hI⟩ := hI
  obtain ⟨u71, hI⟩ := hI
  obtain ⟨u72, hI⟩ := hI
  obtain ⟨u73, hI⟩ := hI
  obtain ⟨u74, hI⟩ := hI
  obtain ⟨u75, hI⟩ := hI
  obtain ⟨u76, hI⟩ := hI
  obtain ⟨u77, hI⟩ := hI
  obtain ⟨u78, hI⟩ := hI
  obtain ⟨u79, hI⟩ := hI
  obtain ⟨u80, hI⟩ := hI
  obtain ⟨u81, hI⟩ := hI
  obtain ⟨u82, hI⟩ := hI
  obtain ⟨u83, hI⟩ := hI
  obtain ⟨u84, hI⟩ := hI
  obtain ⟨u85, hI⟩ := hI
  obtain ⟨u86, hI⟩ := hI
  obtain ⟨u87, hI⟩ := hI
  obtain ⟨u88, hI⟩ := hI
  obtain ⟨u89, hI⟩ := hI
  obtain ⟨u90, hI⟩ := hI
  obtain ⟨u91, hI⟩ := hI
  obtain ⟨u92, hI⟩ := hI
  obtain ⟨u93, hI⟩ := hI
  obtain ⟨u94, hI⟩ := hI
  obtain ⟨u95, hI⟩ := hI
  obtain ⟨u96, hI⟩ := hI
  obtain ⟨u97, hI⟩ := hI
  obtain ⟨u98, hI⟩ := hI
  obtain ⟨u99, hI⟩ := hI
  obtain ⟨u100, hI⟩ := hI
  obtain ⟨u101, hI⟩ := hI
  obtain ⟨u102, hI⟩ := hI
  obtain ⟨u103, hI⟩ := hI
  obtain ⟨u104, hI⟩ := hI
  obtain ⟨u105, hI⟩ := hI
  obtain ⟨u106, hI⟩ := hI
  obtain ⟨u107, hI⟩ := hI
  obtain ⟨u108, hI⟩ := hI
  obtain ⟨NV, ⟨k, LV, met, now, bits, st, f, hk1, hk2, hm, hnow, hpk, hgp⟩, rfl⟩ := hI
  by_cases hkn : k ≤ x.nt
  · have hC : ∀ (bg : Bool), bg = ((k == k0) || (!anch && !f.isSome)) → ∀ (u0 u4 u5 u6 u7 u9 u10 u13 u14 u15 u16 u17 u18 u19 u20 u21 u22 u23 u24 u25 u26 u27 u28 u29 u30 u31 u32 u33 u34 u35 u36 u37 u38 u39 u40 u41 u42 u43 u44 u45 u46 u47 u48 u49 u50 u51 u52 u53 u54 u55 u56 u57 u58 u59 u60 u61 u62 u63 u64 u65 u66 u67 u68 u69 u70 u71 u72 u73 u74 u75 u76 u77 u78 u79 u80 u81 u82 u83 u84 u85 u86 u87 u88 u89 u90 u91 u92 u93 u94 u95 u96 u97 u98 u99 u100 u101 u102 u103 u104 u105 u106 u107 u108 : Value) (NV' : Value) (now' : List TV) (f' : Option Fd) (w' : World), PS x p t k now bg f (k + 1) NV' now' f' w' → (fun a' w' => ∃ n', n' < m ∧ KI x p t k0 anch v8 n' a' w') ⟨#[u0, (.slice x.At x.nt x.ct), (.int .i64 (k0 : Int)), (.bool anch), u4, u5, u6, u7, v8, u9, u10, (.pointer (some ⟨x.rb, 0, none⟩)), NV', u13, u14, u15, u16, u17, u18, u19, u20, u21, u22, u23, u24, u25, u26, u27, u28, u29, u30, u31, u32, u33, u34, u35, u36, u37, u38, u39, u40, u41, u42, u43, u44, u45, u46, u47, u48, u49, u50, u51, u52, u53, u54, u55, u56, u57, u58, u59, u60, u61, u62, u63, u64, u65, u66, u67, u68, u69, u70, u71, u72, u73, u74, u75, u76, u77, u78, u79, u80, u81, u82, u83, u84, u85, u86, u87, u88, u89, u90, u91, u92, u93, u94, u95, u96, u97, u98, u99, u100, u101, u102, u103, u104, u105, u106, u107, u108], []⟩ w' := by
      intro bg hbg u0 u4 u5 u6 u7 u9 u10 u13 u14 u15 u16 u17 u18 u19 u20 u21 u22 u23 u24 u25 u26 u27 u28 u29 u30 u31 u32 u33 u34 u35 u36 u37 u38 u39 u40 u41 u42 u43 u44 u45 u46 u47 u48 u49 u50 u51 u52 u53 u54 u55 u56 u57 u58 u59 u60 u61 u62 u63 u64 u65 u66 u67 u68 u69 u70 u71 u72 u73 u74 u75 u76 u77 u78 u79 u80 u81 u82 u83 u84 u85 u86 u87 u88 u89 u90 u91 u92 u93 u94 u95 u96 u97 u98 u99 u100 u101 u102 u103 u104 u105 u106 u107 u108 NV' now' f' w' hps
      have hg := hps.gp hx hkn hk1 hbg hgp
      obtain ⟨LV', met', st', r, hp, hl, _⟩ := hps
      refine ⟨x.nt + 1 - (k + 1), by omega, ?_⟩
      unfold KI
      exact ⟨u0, u4, u5, u6, u7, u9, u10, u13, u14, u15, u16, u17, u18, u19, u20, u21, u22, u23, u24, u25, u26, u27, u28, u29, u30, u31, u32, u33, u34, u35, u36, u37, u38, u39, u40, u41, u42, u43, u44, u45, u46, u47, u48, u49, u50, u51, u52, u53, u54, u55, u56, u57, u58, u59, u60, u61, u62, u63, u64, u65, u66, u67, u68, u69, u70, u71, u72, u73, u74, u75, u76, u77, u78, u79, u80, u81, u82, u83, u84, u85, u86, u87, u88, u89, u90, u91, u92, u93, u94, u95, u96, u97, u98, u99, u100, u101, u102, u103, u104, u105, u106, u107, u108, NV', ⟨k + 1, LV', met', now', _, st', f', by omega, by omega, Nat.le_refl _, hl, hp, hg⟩, rfl⟩
    have hB : ∀ (bg : Bool), bg = ((k == k0) || (!anch && !f.isSome)) → ∀ (u0 u4 u5 u6 u7 u9 u10 u13 u14 u15 u16 u17 u18 u19 u20 u21 u22 u23 u24 u25 u26 u27 u28 u29 u30 u31 u32 u33 u34 u35 u36 u37 u38 u39 u40 u41 u42 u43 u44 u45 u46 u47 u48 u49 u50 u51 u52 u53 u54 u55 u56 u57 u58 u59 u60 u61 u62 u63 u64 u65 u66 u67 u68 u69 u70 u71 u72 u73 u74 u75 u76 u77 u78 u79 u80 u81 u82 u83 u84 u85 u86 u87 u88 u89 u90 u91 u92 u93 u94 u95 u96 u97 u98 u99 u100 u101 u102 u103 u104 u105 u106 u107 u108 : Value) (NV' : Value) (now' : List TV) (f' : Option Fd) (w' : World), PS x p t k now bg f k NV' now' f' w' → now' = [] → (f'.isSome = true ∨ anch = true) → Q (.exit 0) ⟨#[u0, (.slice x.At x.nt x.ct), (.int .i64 (k0 : Int)), (.bool anch), u4, u5, u6, u7, v8, u9, u10, (.pointer (some ⟨x.rb, 0, none⟩)), NV', u13, u14, u15, u16, u17, u18, u19, u20, u21, u22, u23, u24, u25, u26, u27, u28, u29, u30, u31, u32, u33, u34, u35, u36, u37, u38, u39, u40, u41, u42, u43, u44, u45, u46, u47, u48, u49, u50, u51, u52, u53, u54, u55, u56, u57, u58, u59, u60, u61, u62, u63, u64, u65, u66, u67, u68, u69, u70, u71, u72, u73, u74, u75, u76, u77, u78, u79, u80, u81, u82, u83, u84, u85, u86, u87, u88, u89, u90, u91, u92, u93, u94, u95, u96, u97, u98, u99, u100, u101, u102, u103, u104, u105, u106, u107, u108], []⟩ w' := by
      intro bg hbg u0 u4 u5 u6 u7 u9 u10 u13 u14 u15 u16 u17 u18 u19 u20 u21 u22 u23 u24 u25 u26 u27 u28 u29 u30 u31 u32 u33 u34 u35 u36 u37 u38 u39 u40 u41 u42 u43 u44 u45 u46 u47 u48 u49 u50 u51 u52 u53 u54 u55 u56 u57 u58 u59 u60 u61 u62 u63 u64 u65 u66 u67 u68 u69 u70 u71 u72 u73 u74 u75 u76 u77 u78 u79 u80 u81 u82 u83 u84 u85 u86 u87 u88 u89 u90 u91 u92 u93 u94 u95 u96 u97 u98 u99 u100 u101 u102 u103 u104 u105 u106 u107 u108 NV' now' f' w' hps hz hs
      have hg := hps.gp hx hkn hk1 hbg hgp
      obtain ⟨LV', met', st', r, hp, hl, _⟩ := hps
      rw [hz] at hg
      exact h1 u0 u4 u5 u6 u7 u9 u10 u13 u14 u15 u16 u17 u18 u19 u20 u21 u22 u23 u24 u25 u26 u27 u28 u29 u30 u31 u32 u33 u34 u35 u36 u37 u38 u39 u40 u41 u42 u43 u44 u45 u46 u47 u48 u49 u50 u51 u52 u53 u54 u55 u56 u57 u58 u59 u60 u61 u62 u63 u64 u65 u66 u67 u68 u69 u70 u71 u72 u73 u74 u75 u76 u77 u78 u79 u80 u81 u82 u83 u84 u85 u86 u87 u88 u89 u90 u91 u92 u93 u94 u95 u96 u97 u98 u99 u100 u101 u102 u103 u104 u105 u106 u107 u108 NV' w' ⟨k, LV', met', now', _, st', f', hp, hg.stop (by omega) (by rw [Option.isSome_map]; exact hs)⟩
    by_cases hkk : k = k0
    · exact pround_first u0 u4 u5 u6 u7 u9 u10 u13 u14 u15 u16 u17 u18 u19 u20 u21 u22 u23 u24 u25 u26 u27 u28 u29 u30 u31 u32 u33 u34 u35 u36 u37 u38 u39 u40 u41 u42 u43 u44 u45 u46 u47 u48 u49 u50 u51 u52 u53 u54 u55 u56 u57 u58 u59 u60 u61 u62 u63 u64 u65 u66 u67 u68 u69 u70 u71 u72 u73 u74 u75 u76 u77 u78 u79 u80 u81 u82 u83 u84 u85 u86 u87 u88 u89 u90 u91 u92 u93 u94 u95 u96 u97 u98 u99 u100 u101 u102 u103 u104 u105 u106 u107 u108 hx hpk hkn hx.ntl hnow hkk (hC true (by rw [hkk]; simp)) (hB true (by rw [hkk]; simp))
    · have hb : (k == k0) = false := by rw [beq_eq_false_iff_ne]; exact hkk
      have hkk' : ¬ ((k : Int) = (k0 : Int)) := by omega
      cases ha : anch with
      | true =>
        have hbg : false = ((k == k0) || (!anch && !f.isSome)) := by rw [hb, ha]; rfl
        have c1 := hC false hbg
        have c2 := hB false hbg
        rw [ha] at c1 c2
        exact pround_anch u0 u4 u5 u6 u7 u9 u10 u13 u14 u15 u16 u17 u18 u19 u20 u21 u22 u23 u24 u25 u26 u27 u28 u29 u30 u31 u32 u33 u34 u35 u36 u37 u38 u39 u40 u41 u42 u43 u44 u45 u46 u47 u48 u49 u50 u51 u52 u53 u54 u55 u56 u57 u58 u59 u60 u61 u62 u63 u64 u65 u66 u67 u68 u69 u70 u71 u72 u73 u74 u75 u76 u77 u78 u79 u80 u81 u82 u83 u84 u85 u86 u87 u88 u89 u90 u91 u92 u93 u94 u95 u96 u97 u98 u99 u100 u101 u102 u103 u104 u105 u106 u107 u108 hx hpk hkn hx.ntl hnow hkk' rfl c1 c2
      | false =>
        cases hf : f.isSome with
        | true =>
          have hbg : false = ((k == k0) || (!anch && !f.isSome)) := by rw [hb, ha, hf]; rfl
          have c1 := hC false hbg
          have c2 := hB false hbg
          rw [ha] at c1 c2
          exact pround_had u0 u4 u5 u6 u7 u9 u10 u13 u14 u15 u16 u17 u18 u19 u20 u21 u22 u23 u24 u25 u26 u27 u28 u29 u30 u31 u32 u33 u34 u35 u36 u37 u38 u39 u40 u41 u42 u43 u44 u45 u46 u47 u48 u49 u50 u51 u52 u53 u54 u55 u56 u57 u58 u59 u60 u61 u62 u63 u64 u65 u66 u67 u68 u69 u70 u71 u72 u73 u74 u75 u76 u77 u78 u79 u80 u81 u82 u83 u84 u85 u86 u87 u88 u89 u90 u91 u92 u93 u94 u95 u96 u97 u98 u99 u100 u101 u102 u103 u104 u105 u106 u107 u108 hx hpk hkn hx.ntl hnow hkk' rfl hf c1 c2
        | false =>
          have hbg : true = ((k == k0) || (!anch && !f.isSome)) := by rw [hb, ha, hf]; rfl
          have c1 := hC true hbg
          have c2 := hB true hbg
          rw [ha] at c1 c2
          exact pround_open u0 u4 u5 u6 u7 u9 u10 u13 u14 u15 u16 u17 u18 u19 u20 u21 u22 u23 u24 u25 u26 u27 u28 u29 u30 u31 u32 u33 u34 u35 u36 u37 u38 u39 u40 u41 u42 u43 u44 u45 u46 u47 u48 u49 u50 u51 u52 u53 u54 u55 u56 u57 u58 u59 u60 u61 u62 u63 u64 u65 u66 u67 u68 u69 u70 u71 u72 u73 u74 u75 u76 u77 u78 u79 u80 u81 u82 u83 u84 u85 u86 u87 u88 u89 u90 u91 u92 u93 u94 u95 u96 u97 u98 u99 u100 u101 u102 u103 u104 u105 u106 u107 u108 hx hpk hkn hx.ntl hnow hkk' rfl hf c1 c2
  · refine pround_end u0 u4 u5 u6 u7 u9 u10 u13 u14 u15 u16 u17 u18 u19 u20 u21 u22 u23 u24 u25 u26 u27 u28 u29 u30 u31 u32 u33 u34 u35 u36 u37 u38 u39 u40 u41 u42 u43 u44 u45 u46 u47 u48 u49 u50 u51 u52 u53 u54 u55 u56 u57 u58 u59 u60 u61 u62 u63 u64 u65 u66 u67 u68 u69 u70 u71 u72 u73 u74 u75 u76 u77 u78 u79 u80 u81 u82 u83 u84 u85 u86 u87 u88 u89 u90 u91 u92 u93 u94 u95 u96 u97 u98 u99 u100 u101 u102 u103 u104 u105 u106 u107 u108 hx hpk (by omega) ?_
    intro u0 u4 u5 u6 u7 u9 u10 u13 u14 u15 u16 u17 u18 u19 u20 u21 u22 u23 u24 u25 u26 u27 u28 u29 u30 u31 u32 u33 u34 u35 u36 u37 u38 u39 u40 u41 u42 u43 u44 u45 u46 u47 u48 u49 u50 u51 u52 u53 u54 u55 u56 u57 u58 u59 u60 u61 u62 u63 u64 u65 u66 u67 u68 u69 u70 u71 u72 u73 u74 u75 u76 u77 u78 u79 u80 u81 u82 u83 u84 u85 u86 u87 u88 u89 u90 u91 u92 u93 u94 u95 u96 u97 u98 u99 u100 u101 u102 u103 u104 u105 u106 u107 u108
    exact h1 u0 u4 u5 u6 u7 u9 u10 u13 u14 u15 u16 u17 u18 u19 u20 u21 u22 u23 u24 u25 u26 u27 u28 u29 u30 u31 u32 u33 u34 u35 u36 u37 u38 u39 u40 u41 u42 u43 u44 u45 u46 u47 u48 u49 u50 u51 u52 u53 u54 u55 u56 u57 u58 u59 u60 u61 u62 u63 u64 u65 u66 u67 u68 u69 u70 u71 u72 u73 u74 u75 u76 u77 u78 u79 u80 u81 u82 u83 u84 u85 u86 u87 u88 u89 u90 u91 u92 u93 u94 u95 u96 u97 u98 u99 u100 u101 u102 u103 u104 u105 u106 u107 u108 NV w ⟨k, LV, met, now, bits, st, f, hpk, hgp.end_ (by rw [hx.tl]; omega)⟩
set_option maxRecDepth 1000000 in
set_option maxHeartbeats 4000000 in
theorem pike_loop {x : Px} {p : Prg} {t : List Int} {k0 : Nat} {anch : Bool} {v8 : Value} {L : List InV} (hx : Kx x p t L) {Q : Exit → Act → World → Prop} (u0 u4 u5 u6 u7 u9 u10 u13 u14 u15 u16 u17 u18 u19 u20 u21 u22 u23 u24 u25 u26 u27 u28 u29 u30 u31 u32 u33 u34 u35 u36 u37 u38 u39 u40 u41 u42 u43 u44 u45 u46 u47 u48 u49 u50 u51 u52 u53 u54 u55 u56 u57 u58 u59 u60 u61 u62 u63 u64 u65 u66 u67 u68 u69 u70 u71 u72 u73 u74 u75 u76 u77 u78 u79 u80 u81 u82 u83 u84 u85 u86 u87 u88 u89 u90 u91 u92 u93 u94 u95 u96 u97 u98 u99 u100 u101 u102 u103 u104 u105 u106 u107 u108 : Value) {w : World} {st bits : Int} (hk0 : k0 ≤ x.nt) (h : Pk x (.slice none 0 0) (.slice none 0 0) [] [] k0 bits none st w) (_hnt : x.nt ≤ 4194304)
    (h1 : ∀ (u0 u4 u5 u6 u7 u9 u10 u13 u14 u15 u16 u17 u18 u19 u20 u21 u22 u23 u24 u25 u26 u27 u28 u29 u30 u31 u32 u33 u34 u35 u36 u37 u38 u39 u40 u41 u42 u43 u44 u45 u46 u47 u48 u49 u50 u51 u52 u53 u54 u55 u56 u57 u58 u59 u60 u61 u62 u63 u64 u65 u66 u67 u68 u69 u70 u71 u72 u73 u74 u75 u76 u77 u78 u79 u80 u81 u82 u83 u84 u85 u86 u87 u88 u89 u90 u91 u92 u93 u94 u95 u96 u97 u98 u99 u100 u101 u102 u103 u104 u105 u106 u107 u108 : Value) (NV : Value) (w' : World), KD x p t k0 anch NV w' → Q (.exit 0) ⟨#[u0, (.slice x.At x.nt x.ct), (.int .i64 (k0 : Int)), (.bool anch), u4, u5, u6, u7, v8, u9, u10, (.pointer (some ⟨x.rb, 0, none⟩)), NV, u13, u14, u15, u16, u17, u18, u19, u20, u21, u22, u23, u24, u25, u26, u27, u28, u29, u30, u31, u32, u33, u34, u35, u36, u37, u38, u39, u40, u41, u42, u43, u44, u45, u46, u47, u48, u49, u50, u51, u52, u53, u54, u55, u56, u57, u58, u59, u60, u61, u62, u63, u64, u65, u66, u67, u68, u69, u70, u71, u72, u73, u74, u75, u76, u77, u78, u79, u80, u81, u82, u83, u84, u85, u86, u87, u88, u89, u90, u91, u92, u93, u94, u95, u96, u97, u98, u99, u100, u101, u102, u103, u104, u105, u106, u107, u108], []⟩ w')
    : Code.wp Try.prog (.loop pikeBody) Q ⟨#[u0, (.slice x.At x.nt x.ct), (.int .i64 (k0 : Int)), (.bool anch), u4, u5, u6, u7, v8, u9, u10, (.pointer (some ⟨x.rb, 0, none⟩)), (.slice none 0 0), u13, u14, u15, u16, u17, u18, u19, u20, u21, u22, u23, u24, u25, u26, u27, u28, u29, u30, u31, u32, u33, u34, u35, u36, u37, u38, u39, u40, u41, u42, u43, u44, u45, u46, u47, u48, u49, u50, u51, u52, u53, u54, u55, u56, u57, u58, u59, u60, u61, u62, u63, u64, u65, u66, u67, u68, u69, u70, u71, u72, u73, u74, u75, u76, u77, u78, u79, u80, u81, u82, u83, u84, u85, u86, u87, u88, u89, u90, u91, u92, u93, u94, u95, u96, u97, u98, u99, u100, u101, u102, u103, u104, u105, u106, u107, u108], []⟩ w := by
  refine wp_loop_ghost (KI x p t k0 anch v8) (x.nt + 1 - k0) ?_ (fun m a w hI => pike_round hx h1 m a w hI)
  unfold KI
  exact ⟨u0, u4, u5, u6, u7, u9, u10, u13, u14, u15, u16, u17, u18, u19, u20, u21, u22, u23, u24, u25, u26, u27, u28, u29, u30, u31, u32, u33, u34, u35, u36, u37, u38, u39, u40, u41, u42, u43, u44, u45, u46, u47, u48, u49, u50, u51, u52, u53, u54, u55, u56, u57, u58, u59, u60, u61, u62, u63, u64, u65, u66, u67, u68, u69, u70, u71, u72, u73, u74, u75, u76, u77, u78, u79, u80, u81, u82, u83, u84, u85, u86, u87, u88, u89, u90, u91, u92, u93, u94, u95, u96, u97, u98, u99, u100, u101, u102, u103, u104, u105, u106, u107, u108, _, ⟨k0, _, [], [], _, _, none, Nat.le_refl _, by omega, Nat.le_refl _, by simp, h, Gp.start (by rw [hx.tl]; exact hk0)⟩, rfl⟩
end Go.Proofs.Yteiggbbljgkloaa
