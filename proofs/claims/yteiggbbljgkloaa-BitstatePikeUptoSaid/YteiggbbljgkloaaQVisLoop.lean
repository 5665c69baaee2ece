/- pike.visit: its loop. -/
import Derived.Test.YteiggbbljgkloaaQVisNop
import Derived.Test.YteiggbbljgkloaaQVisCap
import Derived.Test.YteiggbbljgkloaaQVisRune
import Derived.Test.YteiggbbljgkloaaQVisAssert
import Derived.Test.YteiggbbljgkloaaQRunLoop
namespace Go.Proofs.Yteiggbbljgkloaa
open Go.RowKit Go.Proofs.Yteiggbbljgkloaa.Mach

/-- What holds of what pike.Run is asked. -/
structure Kx (x : Px) (p : Prg) (t : List Int) (L : List InV) : Prop where
  rp : ReadsP x.w0 x.B x.A x.n x.c L
  rt : Reads x.w0 x.B 1 x.At x.nt x.ct (t.map (Value.int .i64))
  pi : p.insts = insL L
  chk : checkB p = true
  ntl : x.nt ≤ 4194304
  cl : x.cl = p.caps.toNat
  st : p.start = x.start
  cp : p.caps = x.caps
theorem Kx.tl {x : Px} {p : Prg} {t : List Int} {L : List InV} (h : Kx x p t L) : t.length = x.nt := by have := h.rt.len; simpa using this
theorem Kx.nl {x : Px} {p : Prg} {t : List Int} {L : List InV} (h : Kx x p t L) : p.insts.length = x.n := by rw [h.pi, insL, List.length_map]; exact h.rp.len
def isIn (met : List Nat) : Nat → Bool := fun i => decide (i ∈ met)
theorem isIn_snoc (met : List Nat) (i : Nat) : addV (isIn met) i = isIn (met ++ [i]) := by
  funext a
  unfold addV isIn
  rw [Bool.eq_iff_iff]
  simp only [Bool.or_eq_true, beq_iff_eq, decide_eq_true_eq, List.mem_append, List.mem_singleton]
  exact or_comm
theorem isIn_nil : isIn [] = fun _ => false := by funext a; simp [isIn]
/-- The row that is left, and what it began as. -/
def Gh (p : Prg) (t : List Int) (k : Nat) (s0 : List (Nat × List Int)) (V0 : Nat → Bool) (n0 : List (Nat × List Int)) (left : List TV) (met : List Nat) (nxt : List TV) : Prop :=
  nxt.length ≤ met.length ∧ ∃ E0, prs nxt = n0 ++ E0 ∧ ∀ E r V', Clo p t k (prs left) (isIn met) E r V' → Clo p t k s0 V0 (E0 ++ E) r V'
section
variable {p : Prg} {t : List Int} {k : Nat} {s0 n0 : List (Nat × List Int)} {V0 : Nat → Bool} {v : TV} {l left' : List TV} {met : List Nat} {nxt nxt' : List TV} {I : Ins}
theorem Gh.old (h : Gh p t k s0 V0 n0 (v :: l) met nxt) (hm : v.i ∈ met) : Gh p t k s0 V0 n0 l met nxt := by
  obtain ⟨h1, E0, h2, h3⟩ := h
  exact ⟨h1, E0, h2, fun E r V' hc => h3 E r V' (.skip (by unfold isIn; exact decide_eq_true hm) hc)⟩
theorem Gh.eps (h : Gh p t k s0 V0 n0 (v :: l) met nxt) (hm : v.i ∉ met) (hx : p.insts[v.i]? = some I) (h1 : I.op ≠ 1) (h5 : I.op ≠ 5) (hl : prs left' = strip (succs t I k v.c) ++ prs l) : Gh p t k s0 V0 n0 left' (met ++ [v.i]) nxt := by
  obtain ⟨g1, E0, g2, g3⟩ := h
  refine ⟨by rw [List.length_append, List.length_singleton]; omega, E0, g2, fun E r V' hc => g3 E r V' (.eps (by unfold isIn; exact decide_eq_false hm) hx h1 h5 ?_)⟩
  rw [hl] at hc; rw [isIn_snoc]; exact hc
theorem Gh.out (h : Gh p t k s0 V0 n0 (v :: l) met nxt) (hm : v.i ∉ met) (hx : p.insts[v.i]? = some I) (h1 : I.op = 1) (hf : ¬ (k < t.length ∧ memB I.rng (t.getD k 0) = true)) : Gh p t k s0 V0 n0 l (met ++ [v.i]) nxt := by
  obtain ⟨g1, E0, g2, g3⟩ := h
  refine ⟨by rw [List.length_append, List.length_singleton]; omega, E0, g2, fun E r V' hc => g3 E r V' (.out (by unfold isIn; exact decide_eq_false hm) hx h1 hf ?_)⟩
  rw [isIn_snoc]; exact hc
theorem Gh.rune (h : Gh p t k s0 V0 n0 (v :: l) met nxt) (hm : v.i ∉ met) (hx : p.insts[v.i]? = some I) (h1 : I.op = 1) (hf : k < t.length ∧ memB I.rng (t.getD k 0) = true) (hn : prs nxt' = prs nxt ++ [(I.x.toNat, v.c)]) : Gh p t k s0 V0 n0 l (met ++ [v.i]) nxt' := by
  obtain ⟨g1, E0, g2, g3⟩ := h
  refine ⟨?_, E0 ++ [(I.x.toNat, v.c)], by rw [hn, g2, List.append_assoc], fun E r V' hc => ?_⟩
  · have := congrArg List.length hn
    unfold prs at this
    simp only [List.length_map, List.length_append, List.length_singleton] at this ⊢
    omega
  · rw [List.append_assoc]
    exact g3 _ r V' (.rune (by unfold isIn; exact decide_eq_false hm) hx h1 hf (by rw [isIn_snoc]; exact hc))
theorem Gh.hit (h : Gh p t k s0 V0 n0 (v :: l) met nxt) (hm : v.i ∉ met) (hx : p.insts[v.i]? = some I) (h5 : I.op = 5) : nxt.length ≤ (met ++ [v.i]).length ∧ ∃ E0, prs nxt = n0 ++ E0 ∧ Clo p t k s0 V0 E0 (some (v.c, I.arg)) (isIn (met ++ [v.i])) := by
  obtain ⟨g1, E0, g2, g3⟩ := h
  refine ⟨by rw [List.length_append, List.length_singleton]; omega, E0, g2, ?_⟩
  have := g3 [] _ _ (.hit (by unfold isIn; exact decide_eq_false hm) hx h5)
  rwa [List.append_nil, isIn_snoc] at this
theorem Gh.done (h : Gh p t k s0 V0 n0 [] met nxt) : nxt.length ≤ met.length ∧ ∃ E0, prs nxt = n0 ++ E0 ∧ Clo p t k s0 V0 E0 none (isIn met) := by
  obtain ⟨g1, E0, g2, g3⟩ := h
  refine ⟨g1, E0, g2, ?_⟩
  have := g3 [] _ _ (.nil _)
  rwa [List.append_nil] at this
theorem strip_nop (hop : I.op = 7) (c : List Int) : strip (succs t I k c) = [(I.x.toNat, c)] := by unfold succs strip; simp [hop]
theorem strip_fail (hop : I.op = 6) (c : List Int) : strip (succs t I k c) = [] := by unfold succs strip; simp [hop]
theorem strip_alt (hop : I.op = 2) (c : List Int) : strip (succs t I k c) = [(I.x.toNat, c), (I.y.toNat, c)] := by unfold succs strip; simp [hop]
theorem strip_cap (hop : I.op = 3) (c : List Int) : strip (succs t I k c) = [(I.x.toNat, c.set I.arg.toNat k)] := by unfold succs strip; simp [hop]
theorem strip_as (hop : I.op = 4) (c : List Int) : strip (succs t I k c) = if asB t k I.arg then [(I.x.toNat, c)] else [] := by
  unfold succs strip
  simp only [hop]
  rw [if_neg (by decide), if_neg (by decide), if_neg (by decide), if_pos trivial]
  cases asB t k I.arg <;> rfl
end
def VR (x : Px) (we : World) (LV0 NV0 : Value) (p : Prg) (t : List Int) (k : Nat) (f : Option Fd) (s0 : List (Nat × List Int)) (V0 : Nat → Bool) (n0 : List (Nat × List Int)) (m : Nat) (left : List TV) (LF : Value) (w : World) : Prop :=
  ∃ (LV NV : Value) (met : List Nat) (nxt : List TV) (st : Int), Vi x we LV0 NV0 LF left LV NV met nxt k (atBits t k) f st w ∧ 2 * (x.n - met.length) + left.length ≤ m ∧ m ≤ 100000 ∧ Gh p t k s0 V0 n0 left met nxt

set_option maxRecDepth 1000000 in
def VI (x : Px) (we : World) (LV0 NV0 : Value) (p : Prg) (t : List Int) (k : Nat) (f : Option Fd) (s0 : List (Nat × List Int)) (V0 : Nat → Bool) (n0 : List (Nat × List Int)) (m : Nat) (a : Act) (w : World) : Prop :=
  ∃ u1 : Value, ∃ u3 : Value, ∃ u4 : Value, ∃ u5 : Value, ∃ u8 : Value, ∃ u9 : Value, ∃ u10 : Value, ∃ u11 : Value, ∃ u12 : Value, ∃ u13 : Value, ∃ u14 : Value, ∃ u15 : Value, ∃ u16 : Value, ∃ u17 : Value, ∃ u18 : Value, ∃ u19 : Value, ∃ u20 : Value, ∃ u21 : Value, ∃ u22 : Value, ∃ u23 : Value, ∃ u24 : Value, ∃ u25 : Value, ∃ u26 : Value, ∃ u27 : Value, ∃ u28 : Value, ∃ u29 : Value, ∃ u30 : Value, ∃ u31 : Value, ∃ u32 : Value, ∃ u33 : Value, ∃ u34 : Value, ∃ u35 : Value, ∃ u36 : Value, ∃ u37 : Value, ∃ u38 : Value, ∃ u39 : Value, ∃ u40 : Value, ∃ u41 : Value, ∃ u42 : Value, ∃ u43 : Value, ∃ u44 : Value, ∃ u45 : Value, ∃ u46 : Value, ∃ u47 : Value, ∃ u48 : Value, ∃ u49 : Value, ∃ u50 : Value, ∃ u51 : Value, ∃ u52 : Value, ∃ u53 : Value, ∃ u54 : Value, ∃ u55 : Value, ∃ u56 : Value, ∃ u57 : Value, ∃ u58 : Value, ∃ u59 : Value, ∃ u60 : Value, ∃ u61 : Value, ∃ u62 : Value, ∃ u63 : Value, ∃ u64 : Value, ∃ u65 : Value, ∃ u66 : Value, ∃ u67 : Value, ∃ u68 : Value, ∃ u69 : Value, ∃ u70 : Value, ∃ u71 : Value, ∃ u72 : Value, ∃ u73 : Value, ∃ u74 : Value, ∃ u75 : Value, ∃ u76 : Value, ∃ u77 : Value, ∃ u78 : Value, ∃ u79 : Value, ∃ u80 : Value, ∃ u81 : Value, ∃ u82 : Value, ∃ u83 : Value, ∃ u84 : Value, ∃ u85 : Value, ∃ u86 : Value, ∃ u87 : Value, ∃ u88 : Value, ∃ u89 : Value, ∃ u90 : Value, ∃ u91 : Value, ∃ u92 : Value, ∃ u93 : Value, ∃ u94 : Value, ∃ u95 : Value, ∃ u96 : Value, ∃ u97 : Value, ∃ u98 : Value, ∃ u99 : Value, ∃ u100 : Value, ∃ u101 : Value, ∃ u102 : Value, ∃ u103 : Value, ∃ u104 : Value, ∃ u105 : Value, ∃ u106 : Value, ∃ u107 : Value, ∃ u108 : Value, ∃ u109 : Value, ∃ u110 : Value, ∃ u111 : Value, ∃ u112 : Value, ∃ u113 : Value, ∃ u114 : Value, ∃ u115 : Value, ∃ u116 : Value, ∃ u117 : Value, ∃ u118 : Value, ∃ u119 : Value, ∃ u120 : Value, ∃ u121 : Value, ∃ u122 : Value, ∃ u123 : Value, ∃ u124 : Value, ∃ u125 : Value, ∃ u126 : Value, ∃ u127 : Value, ∃ u128 : Value, ∃ u129 : Value, ∃ u130 : Value, ∃ u131 : Value, ∃ u132 : Value, ∃ u133 : Value, ∃ (left : List TV) (LF : Value), VR x we LV0 NV0 p t k f s0 V0 n0 m left LF w ∧ a = ⟨#[(.pointer (some ⟨x.rb, 0, none⟩)), u1, (.func (.func 38) #[.pointer (some ⟨x.rb, 0, none⟩)] #[]), u3, u4, u5, (.bool false), LF, u8, u9, u10, u11, u12, u13, u14, u15, u16, u17, u18, u19, u20, u21, u22, u23, u24, u25, u26, u27, u28, u29, u30, u31, u32, u33, u34, u35, u36, u37, u38, u39, u40, u41, u42, u43, u44, u45, u46, u47, u48, u49, u50, u51, u52, u53, u54, u55, u56, u57, u58, u59, u60, u61, u62, u63, u64, u65, u66, u67, u68, u69, u70, u71, u72, u73, u74, u75, u76, u77, u78, u79, u80, u81, u82, u83, u84, u85, u86, u87, u88, u89, u90, u91, u92, u93, u94, u95, u96, u97, u98, u99, u100, u101, u102, u103, u104, u105, u106, u107, u108, u109, u110, u111, u112, u113, u114, u115, u116, u117, u118, u119, u120, u121, u122, u123, u124, u125, u126, u127, u128, u129, u130, u131, u132, u133], []⟩

set_option maxRecDepth 1000000 in
set_option maxHeartbeats 4000000 in
theorem visit_round (x : Px) (we : World) (LV0 NV0 : Value) (p : Prg) (t : List Int) (k : Nat) (f : Option Fd) (s0 : List (Nat × List Int)) (V0 : Nat → Bool) (n0 : List (Nat × List Int)) (L : List InV) (hx : Kx x p t L) (hk : k ≤ x.nt) {Q : Exit → Act → World → Prop}
    (h1 : ∀ (u1 u3 u4 u5 u8 u9 u10 u11 u12 u13 u14 u15 u16 u17 u18 u19 u20 u21 u22 u23 u24 u25 u26 u27 u28 u29 u30 u31 u32 u33 u34 u35 u36 u37 u38 u39 u40 u41 u42 u43 u44 u45 u46 u47 u48 u49 u50 u51 u52 u53 u54 u55 u56 u57 u58 u59 u60 u61 u62 u63 u64 u65 u66 u67 u68 u69 u70 u71 u72 u73 u74 u75 u76 u77 u78 u79 u80 u81 u82 u83 u84 u85 u86 u87 u88 u89 u90 u91 u92 u93 u94 u95 u96 u97 u98 u99 u100 u101 u102 u103 u104 u105 u106 u107 u108 u109 u110 u111 u112 u113 u114 u115 u116 u117 u118 u119 u120 u121 u122 u123 u124 u125 u126 u127 u128 u129 u130 u131 u132 u133 : Value) (LF : Value) (w' : World), (∃ (LV NV : Value) (met : List Nat) (nxt : List TV) (st : Int) (l : List TV), Vi x we LV0 NV0 LF l LV NV met nxt k (atBits t k) f st w' ∧ nxt.length ≤ met.length ∧ ∃ E0, prs nxt = n0 ++ E0 ∧ Clo p t k s0 V0 E0 none (isIn met)) → Q (.exit 0) ⟨#[(.pointer (some ⟨x.rb, 0, none⟩)), u1, (.func (.func 38) #[.pointer (some ⟨x.rb, 0, none⟩)] #[]), u3, u4, u5, (.bool false), LF, u8, u9, u10, u11, u12, u13, u14, u15, u16, u17, u18, u19, u20, u21, u22, u23, u24, u25, u26, u27, u28, u29, u30, u31, u32, u33, u34, u35, u36, u37, u38, u39, u40, u41, u42, u43, u44, u45, u46, u47, u48, u49, u50, u51, u52, u53, u54, u55, u56, u57, u58, u59, u60, u61, u62, u63, u64, u65, u66, u67, u68, u69, u70, u71, u72, u73, u74, u75, u76, u77, u78, u79, u80, u81, u82, u83, u84, u85, u86, u87, u88, u89, u90, u91, u92, u93, u94, u95, u96, u97, u98, u99, u100, u101, u102, u103, u104, u105, u106, u107, u108, u109, u110, u111, u112, u113, u114, u115, u116, u117, u118, u119, u120, u121, u122, u123, u124, u125, u126, u127, u128, u129, u130, u131, u132, u133], []⟩ w')
    (h2 : ∀ (u1 u3 u4 u5 u8 u9 u10 u11 u12 u13 u14 u15 u16 u17 u18 u19 u20 u21 u22 u23 u24 u25 u26 u27 u28 u29 u30 u31 u32 u33 u34 u35 u36 u37 u38 u39 u40 u41 u42 u43 u44 u45 u46 u47 u48 u49 u50 u51 u52 u53 u54 u55 u56 u57 u58 u59 u60 u61 u62 u63 u64 u65 u66 u67 u68 u69 u70 u71 u72 u73 u74 u75 u76 u77 u78 u79 u80 u81 u82 u83 u84 u85 u86 u87 u88 u89 u90 u91 u92 u93 u94 u95 u96 u97 u98 u99 u100 u101 u102 u103 u104 u105 u106 u107 u108 u109 u110 u111 u112 u113 u114 u115 u116 u117 u118 u119 u120 u121 u122 u123 u124 u125 u126 u127 u128 u129 u130 u131 u132 u133 : Value) (LF : Value) (w' : World) (d : Fd), (∃ (LV NV : Value) (met : List Nat) (nxt : List TV) (st : Int) (l : List TV), Vi x we LV0 NV0 LF l LV NV met nxt k (atBits t k) (some d) st w' ∧ nxt.length ≤ met.length ∧ ∃ E0, prs nxt = n0 ++ E0 ∧ Clo p t k s0 V0 E0 (some d.res) (isIn met)) → Q .ret ⟨#[(.pointer (some ⟨x.rb, 0, none⟩)), u1, (.func (.func 38) #[.pointer (some ⟨x.rb, 0, none⟩)] #[]), u3, u4, u5, (.bool true), LF, u8, u9, u10, u11, u12, u13, u14, u15, u16, u17, u18, u19, u20, u21, u22, u23, u24, u25, u26, u27, u28, u29, u30, u31, u32, u33, u34, u35, u36, u37, u38, u39, u40, u41, u42, u43, u44, u45, u46, u47, u48, u49, u50, u51, u52, u53, u54, u55, u56, u57, u58, u59, u60, u61, u62, u63, u64, u65, u66, u67, u68, u69, u70, u71, u72, u73, u74, u75, u76, u77, u78, u79, u80, u81, u82, u83, u84, u85, u86, u87, u88, u89, u90, u91, u92, u93, u94, u95, u96, u97, u98, u99, u100, u101, u102, u103, u104, u105, u106, u107, u108, u109, u110, u111, u112, u113, u114, u115, u116, u117, u118, u119, u120, u121, u122, u123, u124, u125, u126, u127, u128, u129, u130, u131, u132, u133], []⟩ w')
    (m : Nat) (a : Act) (w : World) (hI : VI x we LV0 NV0 p t k f s0 V0 n0 m a w)
    : Code.wp Try.prog visitBody (Exit.then (fun a' w' => ∃ n', n' < m ∧ VI x we LV0 NV0 p t k f s0 V0 n0 n' a' w') Q) a w := by
  unfold VI at hI
  obtain ⟨u1, hI⟩ := hI
  obtain ⟨u3, hI⟩ := hI
  obtain ⟨u4, hI⟩ := hI
  obtain ⟨u5, hI⟩ := hI
  obtain ⟨u8, hI⟩ := hI
  obtain ⟨u9, hI⟩ := hI
  obtain ⟨u10, hI⟩ := hI
  obtain ⟨u11, hI⟩ := hI
  obtain ⟨u12, hI⟩ := hI
  obtain ⟨u13, hI⟩ := hI
  obtain ⟨u14, hI⟩ := hI
  obtain ⟨u15, hI⟩ := hI
  obtain ⟨u16, hI⟩ := hI
  obtain ⟨u17, hI⟩ := hI
  obtain ⟨u18, hI⟩ := hI
  obtain ⟨u19, hI⟩ := hI
  obtain ⟨u20, hI⟩ := hI
  obtain ⟨u21, hI⟩ := hI
  obtain ⟨u22, hI⟩ := hI
  obtain ⟨u23, hI⟩ := hI
  obtain ⟨u24, hI⟩ := hI
  obtain ⟨u25, hI⟩ := hI
  obtain ⟨u26, hI⟩ := hI
  obtain ⟨u27, hI⟩ := hI
  obtain ⟨u28, hI⟩ := hI
  obtain ⟨u29, hI⟩ := hI
  obtain ⟨u30, hI⟩ := hI
  obtain ⟨u31, hI⟩ := hI
  obtain ⟨u32, hI⟩ := hI
  obtain ⟨u33, hI⟩ := hI
  obtain ⟨u34, hI⟩ := hI
  obtain ⟨u35, hI⟩ := hI
  obtain ⟨u36, hI⟩ := hI
  obtain ⟨u37, hI⟩ := hI
  obtain ⟨u38, hI⟩ := hI
  obtain ⟨u39, hI⟩ := hI
  obtain ⟨u40, hI⟩ := hI
  obtain ⟨u41, hI⟩ := hI
  obtain ⟨u42, hI⟩ := hI
  obtain ⟨u43, hI⟩ := hI
  obtain ⟨u44, hI⟩ := hI
  obtain ⟨u45, hI⟩ := hI
  obtain ⟨u46, hI⟩ := hI
  obtain ⟨u47, hI⟩ := hI
  obtain ⟨u48, hI⟩ := hI
  obtain ⟨u49, hI⟩ := hI
  obtain ⟨u50, hI⟩ := hI
  obtain ⟨u51, hI⟩ := hI
  obtain ⟨u52, hI⟩ := hI
  obtain ⟨u53, hI⟩ := hI
  obtain ⟨u54, hI⟩ := hI
  obtain ⟨u55, hI⟩ := hI
  obtain ⟨u56, hI⟩ := hI
  obtain ⟨u57, hI⟩ := hI
  obtain ⟨u58, hI⟩ := hI
  obtain ⟨u59, hI⟩ := hI
  obtain ⟨u60, hI⟩ := hI
  obtain ⟨u61, hI⟩ := hI
  obtain ⟨u62, hI⟩ := hI
  obtain ⟨u63, hI⟩ := hI
  obtain ⟨u64, hI⟩ := hI
  obtain ⟨u65, hI⟩ := hI
  obtain ⟨u66, hI⟩ := hI
  obtain ⟨u67, hI⟩ := hI
  obtain ⟨u68, hI⟩ := hI
  obtain ⟨u69, hI⟩ := hI
  obtain ⟨u70, hI⟩ := hI
  obtain ⟨u71, hI⟩ := hI
  obtain ⟨u72, hI⟩ := hI
  obtain ⟨u73, hI⟩ := hI
  obtain ⟨u74, hI⟩ := hI
  obtain ⟨u75, hI⟩ := hI
  obtain ⟨u76, hI⟩ := hI
  obtain ⟨u77, hI⟩ := hI
  obtain ⟨u78, hI⟩ := hI
  obtain ⟨u79, hI⟩ := hI
  obtain ⟨u80, hI⟩ := hI
  obtain ⟨u81, hI⟩ := hI
  obtain ⟨u82, hI⟩ := hI
  obtain ⟨u83, hI⟩ := hI
  obtain ⟨u84, hI⟩ := hI
  obtain ⟨u85, hI⟩ := hI
  obtain ⟨u86, hI⟩ := hI
  obtain ⟨u87, hI⟩ := hI
  obtain ⟨u88, hI⟩ := hI
  obtain ⟨u89, hI⟩ := hI
  obtain ⟨u90, hI⟩ := hI
  obtain ⟨u91, hI⟩ := hI
  obtain ⟨u92, hI⟩ := hI
  obtain ⟨u93, hI⟩ := hI
  obtain ⟨u94, hI⟩ := hI
  obtain ⟨u95, hI⟩ := hI
  obtain ⟨u96, hI⟩ := hI
  obtain ⟨u97, hI⟩ := hI
  obtain ⟨u98, hI⟩ := hI
  obtain ⟨u99, hI⟩ := hI
  obtain ⟨u100, hI⟩ := hI
  obtain ⟨u101, hI⟩ := hI
  obtain ⟨u102, hI⟩ := hI
  obtain ⟨u103, hI⟩ := hI
  obtain ⟨u104, hI⟩ := hI
  obtain ⟨u105, hI⟩ := hI
  obtain ⟨u106, hI⟩ := hI
  obtain ⟨u107, hI⟩ := hI
  obtain ⟨u108, hI⟩ := hI
  obtain ⟨u109, hI⟩ := hI
  obtain ⟨u110, hI⟩ := hI
  obtain ⟨u111, hI⟩ := hI
  obtain ⟨u112, hI⟩ := hI
  obtain ⟨u113, hI⟩ := hI
  obtain ⟨u114, hI⟩ := hI
  obtain ⟨u115, hI⟩ := hI
  obtain ⟨u116, hI⟩ := hI
  obtain ⟨u117, hI⟩ := hI
  obtain ⟨u118, hI⟩ := hI
  obtain ⟨u119, hI⟩ := hI
  obtain ⟨u120, hI⟩ := hI
  obtain ⟨u121, hI⟩ := hI
  obtain ⟨u122, hI⟩ := hI
  obtain ⟨u123, hI⟩ := hI
  obtain ⟨u124, hI⟩ := hI
  obtain ⟨u125, hI⟩ := hI
  obtain ⟨u126, hI⟩ := hI
  obtain ⟨u127, hI⟩ := hI
  obtain ⟨u128, hI⟩ := hI
  obtain ⟨u129, hI⟩ := hI
  obtain ⟨u130, hI⟩ := hI
  obtain ⟨u131, hI⟩ := hI
  obtain ⟨u132, hI⟩ := hI
  obtain ⟨u133, hI⟩ := hI
  obtain ⟨left, LF, ⟨LV, NV, met, nxt, st, hv, hm, hm2, hg⟩, rfl⟩ := hI
  have hnl := hx.nl
  obtain ⟨hd1, hd2, hd3, hd4, hd5, hd6⟩ := head_of hx.chk
  have htl := hx.tl
  have hnext : ∀ (left' : List TV) (LF' LV' NV' : Value) (met' : List Nat) (nxt' : List TV) (st' : Int) (w' : World), 2 * (x.n - met'.length) + left'.length < m → Vi x we LV0 NV0 LF' left' LV' NV' met' nxt' k (atBits t k) f st' w' → Gh p t k s0 V0 n0 left' met' nxt' → ∀ (u1 u3 u4 u5 u8 u9 u10 u11 u12 u13 u14 u15 u16 u17 u18 u19 u20 u21 u22 u23 u24 u25 u26 u27 u28 u29 u30 u31 u32 u33 u34 u35 u36 u37 u38 u39 u40 u41 u42 u43 u44 u45 u46 u47 u48 u49 u50 u51 u52 u53 u54 u55 u56 u57 u58 u59 u60 u61 u62 u63 u64 u65 u66 u67 u68 u69 u70 u71 u72 u73 u74 u75 u76 u77 u78 u79 u80 u81 u82 u83 u84 u85 u86 u87 u88 u89 u90 u91 u92 u93 u94 u95 u96 u97 u98 u99 u100 u101 u102 u103 u104 u105 u106 u107 u108 u109 u110 u111 u112 u113 u114 u115 u116 u117 u118 u119 u120 u121 u122 u123 u124 u125 u126 u127 u128 u129 u130 u131 u132 u133 : Value), (fun a' w' => ∃ n', n' < m ∧ VI x we LV0 NV0 p t k f s0 V0 n0 n' a' w') ⟨#[(.pointer (some ⟨x.rb, 0, none⟩)), u1, (.func (.func 38) #[.pointer (some ⟨x.rb, 0, none⟩)] #[]), u3, u4, u5, (.bool false), LF', u8, u9, u10, u11, u12, u13, u14, u15, u16, u17, u18, u19, u20, u21, u22, u23, u24, u25, u26, u27, u28, u29, u30, u31, u32, u33, u34, u35, u36, u37, u38, u39, u40, u41, u42, u43, u44, u45, u46, u47, u48, u49, u50, u51, u52, u53, u54, u55, u56, u57, u58, u59, u60, u61, u62, u63, u64, u65, u66, u67, u68, u69, u70, u71, u72, u73, u74, u75, u76, u77, u78, u79, u80, u81, u82, u83, u84, u85, u86, u87, u88, u89, u90, u91, u92, u93, u94, u95, u96, u97, u98, u99, u100, u101, u102, u103, u104, u105, u106, u107, u108, u109, u110, u111, u112, u113, u114, u115, u116, u117, u118, u119, u120, u121, u122, u123, u124, u125, u126, u127, u128, u129, u130, u131, u132, u133], []⟩ w' := by
    intro left' LF' LV' NV' met' nxt' st' w' hlt hv' hg' u1 u3 u4 u5 u8 u9 u10 u11 u12 u13 u14 u15 u16 u17 u18 u19 u20 u21 u22 u23 u24 u25 u26 u27 u28 u29 u30 u31 u32 u33 u34 u35 u36 u37 u38 u39 u40 u41 u42 u43 u44 u45 u46 u47 u48 u49 u50 u51 u52 u53 u54 u55 u56 u57 u58 u59 u60 u61 u62 u63 u64 u65 u66 u67 u68 u69 u70 u71 u72 u73 u74 u75 u76 u77 u78 u79 u80 u81 u82 u83 u84 u85 u86 u87 u88 u89 u90 u91 u92 u93 u94 u95 u96 u97 u98 u99 u100 u101 u102 u103 u104 u105 u106 u107 u108 u109 u110 u111 u112 u113 u114 u115 u116 u117 u118 u119 u120 u121 u122 u123 u124 u125 u126 u127 u128 u129 u130 u131 u132 u133
    refine ⟨2 * (x.n - met'.length) + left'.length, hlt, ?_⟩
    unfold VI
    exact ⟨u1, u3, u4, u5, u8, u9, u10, u11, u12, u13, u14, u15, u16, u17, u18, u19, u20, u21, u22, u23, u24, u25, u26, u27, u28, u29, u30, u31, u32, u33, u34, u35, u36, u37, u38, u39, u40, u41, u42, u43, u44, u45, u46, u47, u48, u49, u50, u51, u52, u53, u54, u55, u56, u57, u58, u59, u60, u61, u62, u63, u64, u65, u66, u67, u68, u69, u70, u71, u72, u73, u74, u75, u76, u77, u78, u79, u80, u81, u82, u83, u84, u85, u86, u87, u88, u89, u90, u91, u92, u93, u94, u95, u96, u97, u98, u99, u100, u101, u102, u103, u104, u105, u106, u107, u108, u109, u110, u111, u112, u113, u114, u115, u116, u117, u118, u119, u120, u121, u122, u123, u124, u125, u126, u127, u128, u129, u130, u131, u132, u133, left', LF', ⟨LV', NV', met', nxt', st', hv', Nat.le_refl _, by omega, hg'⟩, rfl⟩
  have hless : ∀ {LF' LV' NV' : Value} {l' : List TV} {i : Nat} {nxt' : List TV} {st' : Int} {w' : World}, Vi x we LV0 NV0 LF' l' LV' NV' (met ++ [i]) nxt' k (atBits t k) f st' w' → met.length < x.n := by
    intro LF' LV' NV' l' i nxt' st' w' h
    have := h.pk.met.size
    rw [List.length_append, List.length_singleton] at this
    omega
  match left with
  | [] =>
    exact vround_empty (l := []) (v := ⟨0, 0, []⟩) u1 u3 u4 u5 u8 u9 u10 u11 u12 u13 u14 u15 u16 u17 u18 u19 u20 u21 u22 u23 u24 u25 u26 u27 u28 u29 u30 u31 u32 u33 u34 u35 u36 u37 u38 u39 u40 u41 u42 u43 u44 u45 u46 u47 u48 u49 u50 u51 u52 u53 u54 u55 u56 u57 u58 u59 u60 u61 u62 u63 u64 u65 u66 u67 u68 u69 u70 u71 u72 u73 u74 u75 u76 u77 u78 u79 u80 u81 u82 u83 u84 u85 u86 u87 u88 u89 u90 u91 u92 u93 u94 u95 u96 u97 u98 u99 u100 u101 u102 u103 u104 u105 u106 u107 u108 u109 u110 u111 u112 u113 u114 u115 u116 u117 u118 u119 u120 u121 u122 u123 u124 u125 u126 u127 u128 u129 u130 u131 u132 u133 hv (fun u1 u3 u4 u5 u8 u9 u10 u11 u12 u13 u14 u15 u16 u17 u18 u19 u20 u21 u22 u23 u24 u25 u26 u27 u28 u29 u30 u31 u32 u33 u34 u35 u36 u37 u38 u39 u40 u41 u42 u43 u44 u45 u46 u47 u48 u49 u50 u51 u52 u53 u54 u55 u56 u57 u58 u59 u60 u61 u62 u63 u64 u65 u66 u67 u68 u69 u70 u71 u72 u73 u74 u75 u76 u77 u78 u79 u80 u81 u82 u83 u84 u85 u86 u87 u88 u89 u90 u91 u92 u93 u94 u95 u96 u97 u98 u99 u100 u101 u102 u103 u104 u105 u106 u107 u108 u109 u110 u111 u112 u113 u114 u115 u116 u117 u118 u119 u120 u121 u122 u123 u124 u125 u126 u127 u128 u129 u130 u131 u132 u133 => h1 u1 u3 u4 u5 u8 u9 u10 u11 u12 u13 u14 u15 u16 u17 u18 u19 u20 u21 u22 u23 u24 u25 u26 u27 u28 u29 u30 u31 u32 u33 u34 u35 u36 u37 u38 u39 u40 u41 u42 u43 u44 u45 u46 u47 u48 u49 u50 u51 u52 u53 u54 u55 u56 u57 u58 u59 u60 u61 u62 u63 u64 u65 u66 u67 u68 u69 u70 u71 u72 u73 u74 u75 u76 u77 u78 u79 u80 u81 u82 u83 u84 u85 u86 u87 u88 u89 u90 u91 u92 u93 u94 u95 u96 u97 u98 u99 u100 u101 u102 u103 u104 u105 u106 u107 u108 u109 u110 u111 u112 u113 u114 u115 u116 u117 u118 u119 u120 u121 u122 u123 u124 u125 u126 u127 u128 u129 u130 u131 u132 u133 LF w ⟨LV, NV, met, nxt, st, [], hv, hg.done⟩)
  | v :: l =>
    rw [List.length_cons] at hm
    have hvok := hv.ok v List.mem_cons_self
    by_cases hmm : v.i ∈ met
    · refine vround_old u1 u3 u4 u5 u8 u9 u10 u11 u12 u13 u14 u15 u16 u17 u18 u19 u20 u21 u22 u23 u24 u25 u26 u27 u28 u29 u30 u31 u32 u33 u34 u35 u36 u37 u38 u39 u40 u41 u42 u43 u44 u45 u46 u47 u48 u49 u50 u51 u52 u53 u54 u55 u56 u57 u58 u59 u60 u61 u62 u63 u64 u65 u66 u67 u68 u69 u70 u71 u72 u73 u74 u75 u76 u77 u78 u79 u80 u81 u82 u83 u84 u85 u86 u87 u88 u89 u90 u91 u92 u93 u94 u95 u96 u97 u98 u99 u100 u101 u102 u103 u104 u105 u106 u107 u108 u109 u110 u111 u112 u113 u114 u115 u116 u117 u118 u119 u120 u121 u122 u123 u124 u125 u126 u127 u128 u129 u130 u131 u132 u133 hv (by omega) (by omega) hmm ?_
      intro u1 u3 u4 u5 u8 u9 u10 u11 u12 u13 u14 u15 u16 u17 u18 u19 u20 u21 u22 u23 u24 u25 u26 u27 u28 u29 u30 u31 u32 u33 u34 u35 u36 u37 u38 u39 u40 u41 u42 u43 u44 u45 u46 u47 u48 u49 u50 u51 u52 u53 u54 u55 u56 u57 u58 u59 u60 u61 u62 u63 u64 u65 u66 u67 u68 u69 u70 u71 u72 u73 u74 u75 u76 u77 u78 u79 u80 u81 u82 u83 u84 u85 u86 u87 u88 u89 u90 u91 u92 u93 u94 u95 u96 u97 u98 u99 u100 u101 u102 u103 u104 u105 u106 u107 u108 u109 u110 u111 u112 u113 u114 u115 u116 u117 u118 u119 u120 u121 u122 u123 u124 u125 u126 u127 u128 u129 u130 u131 u132 u133 LF' w' hv'
      exact hnext _ _ _ _ _ _ _ _ (by omega) hv' (hg.old hmm) u1 u3 u4 u5 u8 u9 u10 u11 u12 u13 u14 u15 u16 u17 u18 u19 u20 u21 u22 u23 u24 u25 u26 u27 u28 u29 u30 u31 u32 u33 u34 u35 u36 u37 u38 u39 u40 u41 u42 u43 u44 u45 u46 u47 u48 u49 u50 u51 u52 u53 u54 u55 u56 u57 u58 u59 u60 u61 u62 u63 u64 u65 u66 u67 u68 u69 u70 u71 u72 u73 u74 u75 u76 u77 u78 u79 u80 u81 u82 u83 u84 u85 u86 u87 u88 u89 u90 u91 u92 u93 u94 u95 u96 u97 u98 u99 u100 u101 u102 u103 u104 u105 u106 u107 u108 u109 u110 u111 u112 u113 u114 u115 u116 u117 u118 u119 u120 u121 u122 u123 u124 u125 u126 u127 u128 u129 u130 u131 u132 u133
    · obtain ⟨u, hu⟩ : ∃ u, L[v.i]? = some u := ⟨_, List.getElem?_eq_getElem (by have := hx.rp.len; have := hvok.1; omega)⟩
      have hxI : p.insts[v.i]? = some u.I := by rw [hx.pi, insL, List.getElem?_map, hu]; rfl
      have hmay := may_of hx.chk hxI
      rcases op_cases hmay with e | e | e | e | e | e | e
      · have hxx := may_x hmay (.inl e)
        by_cases hf : k < t.length ∧ memB u.I.rng (t.getD k 0) = true
        · refine vround_rune u1 u3 u4 u5 u8 u9 u10 u11 u12 u13 u14 u15 u16 u17 u18 u19 u20 u21 u22 u23 u24 u25 u26 u27 u28 u29 u30 u31 u32 u33 u34 u35 u36 u37 u38 u39 u40 u41 u42 u43 u44 u45 u46 u47 u48 u49 u50 u51 u52 u53 u54 u55 u56 u57 u58 u59 u60 u61 u62 u63 u64 u65 u66 u67 u68 u69 u70 u71 u72 u73 u74 u75 u76 u77 u78 u79 u80 u81 u82 u83 u84 u85 u86 u87 u88 u89 u90 u91 u92 u93 u94 u95 u96 u97 u98 u99 u100 u101 u102 u103 u104 u105 u106 u107 u108 u109 u110 u111 u112 u113 u114 u115 u116 u117 u118 u119 u120 u121 u122 u123 u124 u125 u126 u127 u128 u129 u130 u131 u132 u133 hv (by omega) (by omega) hmm hx.rp hu hx.rt hk hx.ntl e (ixn := u.I.x.toNat) (by omega) (by omega) (by have := hg.1; have := hv.pk.met.size; omega) (may_rng hmay e) (by rw [htl] at hf; rw [Bool.and_eq_true, decide_eq_true_eq]; exact hf) ?_
          intro u1 u3 u4 u5 u8 u9 u10 u11 u12 u13 u14 u15 u16 u17 u18 u19 u20 u21 u22 u23 u24 u25 u26 u27 u28 u29 u30 u31 u32 u33 u34 u35 u36 u37 u38 u39 u40 u41 u42 u43 u44 u45 u46 u47 u48 u49 u50 u51 u52 u53 u54 u55 u56 u57 u58 u59 u60 u61 u62 u63 u64 u65 u66 u67 u68 u69 u70 u71 u72 u73 u74 u75 u76 u77 u78 u79 u80 u81 u82 u83 u84 u85 u86 u87 u88 u89 u90 u91 u92 u93 u94 u95 u96 u97 u98 u99 u100 u101 u102 u103 u104 u105 u106 u107 u108 u109 u110 u111 u112 u113 u114 u115 u116 u117 u118 u119 u120 u121 u122 u123 u124 u125 u126 u127 u128 u129 u130 u131 u132 u133 LF' LV' NV' st' w' hv'
          have := hless hv'
          exact hnext _ _ _ _ _ _ _ _ (by rw [List.length_append, List.length_singleton]; omega) hv' (hg.rune hmm hxI e hf (by unfold prs; rw [List.map_append]; rfl)) u1 u3 u4 u5 u8 u9 u10 u11 u12 u13 u14 u15 u16 u17 u18 u19 u20 u21 u22 u23 u24 u25 u26 u27 u28 u29 u30 u31 u32 u33 u34 u35 u36 u37 u38 u39 u40 u41 u42 u43 u44 u45 u46 u47 u48 u49 u50 u51 u52 u53 u54 u55 u56 u57 u58 u59 u60 u61 u62 u63 u64 u65 u66 u67 u68 u69 u70 u71 u72 u73 u74 u75 u76 u77 u78 u79 u80 u81 u82 u83 u84 u85 u86 u87 u88 u89 u90 u91 u92 u93 u94 u95 u96 u97 u98 u99 u100 u101 u102 u103 u104 u105 u106 u107 u108 u109 u110 u111 u112 u113 u114 u115 u116 u117 u118 u119 u120 u121 u122 u123 u124 u125 u126 u127 u128 u129 u130 u131 u132 u133
        · refine vround_out u1 u3 u4 u5 u8 u9 u10 u11 u12 u13 u14 u15 u16 u17 u18 u19 u20 u21 u22 u23 u24 u25 u26 u27 u28 u29 u30 u31 u32 u33 u34 u35 u36 u37 u38 u39 u40 u41 u42 u43 u44 u45 u46 u47 u48 u49 u50 u51 u52 u53 u54 u55 u56 u57 u58 u59 u60 u61 u62 u63 u64 u65 u66 u67 u68 u69 u70 u71 u72 u73 u74 u75 u76 u77 u78 u79 u80 u81 u82 u83 u84 u85 u86 u87 u88 u89 u90 u91 u92 u93 u94 u95 u96 u97 u98 u99 u100 u101 u102 u103 u104 u105 u106 u107 u108 u109 u110 u111 u112 u113 u114 u115 u116 u117 u118 u119 u120 u121 u122 u123 u124 u125 u126 u127 u128 u129 u130 u131 u132 u133 hv (by omega) (by omega) hmm hx.rp hu hx.rt hk hx.ntl e (may_rng hmay e) (by rw [htl] at hf; exact Bool.eq_false_iff.2 fun h => hf (by rwa [Bool.and_eq_true, decide_eq_true_eq] at h)) ?_
          intro u1 u3 u4 u5 u8 u9 u10 u11 u12 u13 u14 u15 u16 u17 u18 u19 u20 u21 u22 u23 u24 u25 u26 u27 u28 u29 u30 u31 u32 u33 u34 u35 u36 u37 u38 u39 u40 u41 u42 u43 u44 u45 u46 u47 u48 u49 u50 u51 u52 u53 u54 u55 u56 u57 u58 u59 u60 u61 u62 u63 u64 u65 u66 u67 u68 u69 u70 u71 u72 u73 u74 u75 u76 u77 u78 u79 u80 u81 u82 u83 u84 u85 u86 u87 u88 u89 u90 u91 u92 u93 u94 u95 u96 u97 u98 u99 u100 u101 u102 u103 u104 u105 u106 u107 u108 u109 u110 u111 u112 u113 u114 u115 u116 u117 u118 u119 u120 u121 u122 u123 u124 u125 u126 u127 u128 u129 u130 u131 u132 u133 LF' LV' st' w' hv'
          have := hless hv'
          exact hnext _ _ _ _ _ _ _ _ (by rw [List.length_append, List.length_singleton]; omega) hv' (hg.out hmm hxI e hf) u1 u3 u4 u5 u8 u9 u10 u11 u12 u13 u14 u15 u16 u17 u18 u19 u20 u21 u22 u23 u24 u25 u26 u27 u28 u29 u30 u31 u32 u33 u34 u35 u36 u37 u38 u39 u40 u41 u42 u43 u44 u45 u46 u47 u48 u49 u50 u51 u52 u53 u54 u55 u56 u57 u58 u59 u60 u61 u62 u63 u64 u65 u66 u67 u68 u69 u70 u71 u72 u73 u74 u75 u76 u77 u78 u79 u80 u81 u82 u83 u84 u85 u86 u87 u88 u89 u90 u91 u92 u93 u94 u95 u96 u97 u98 u99 u100 u101 u102 u103 u104 u105 u106 u107 u108 u109 u110 u111 u112 u113 u114 u115 u116 u117 u118 u119 u120 u121 u122 u123 u124 u125 u126 u127 u128 u129 u130 u131 u132 u133
      · have hxx := may_x hmay (.inr (.inl e))
        have hyy := may_y hmay e
        refine vround_alt u1 u3 u4 u5 u8 u9 u10 u11 u12 u13 u14 u15 u16 u17 u18 u19 u20 u21 u22 u23 u24 u25 u26 u27 u28 u29 u30 u31 u32 u33 u34 u35 u36 u37 u38 u39 u40 u41 u42 u43 u44 u45 u46 u47 u48 u49 u50 u51 u52 u53 u54 u55 u56 u57 u58 u59 u60 u61 u62 u63 u64 u65 u66 u67 u68 u69 u70 u71 u72 u73 u74 u75 u76 u77 u78 u79 u80 u81 u82 u83 u84 u85 u86 u87 u88 u89 u90 u91 u92 u93 u94 u95 u96 u97 u98 u99 u100 u101 u102 u103 u104 u105 u106 u107 u108 u109 u110 u111 u112 u113 u114 u115 u116 u117 u118 u119 u120 u121 u122 u123 u124 u125 u126 u127 u128 u129 u130 u131 u132 u133 hv (by omega) (by omega) hmm hx.rp hu e (ixn := u.I.x.toNat) (iyn := u.I.y.toNat) (by omega) (by omega) (by omega) (by omega) ?_
        intro u1 u3 u4 u5 u8 u9 u10 u11 u12 u13 u14 u15 u16 u17 u18 u19 u20 u21 u22 u23 u24 u25 u26 u27 u28 u29 u30 u31 u32 u33 u34 u35 u36 u37 u38 u39 u40 u41 u42 u43 u44 u45 u46 u47 u48 u49 u50 u51 u52 u53 u54 u55 u56 u57 u58 u59 u60 u61 u62 u63 u64 u65 u66 u67 u68 u69 u70 u71 u72 u73 u74 u75 u76 u77 u78 u79 u80 u81 u82 u83 u84 u85 u86 u87 u88 u89 u90 u91 u92 u93 u94 u95 u96 u97 u98 u99 u100 u101 u102 u103 u104 u105 u106 u107 u108 u109 u110 u111 u112 u113 u114 u115 u116 u117 u118 u119 u120 u121 u122 u123 u124 u125 u126 u127 u128 u129 u130 u131 u132 u133 LF' LV' st' w' hv'
        have := hless hv'
        exact hnext _ _ _ _ _ _ _ _ (by rw [List.length_append, List.length_singleton, List.length_cons, List.length_cons]; omega) hv' (hg.eps hmm hxI (by rw [e]; decide) (by rw [e]; decide) (by rw [strip_alt e]; rfl)) u1 u3 u4 u5 u8 u9 u10 u11 u12 u13 u14 u15 u16 u17 u18 u19 u20 u21 u22 u23 u24 u25 u26 u27 u28 u29 u30 u31 u32 u33 u34 u35 u36 u37 u38 u39 u40 u41 u42 u43 u44 u45 u46 u47 u48 u49 u50 u51 u52 u53 u54 u55 u56 u57 u58 u59 u60 u61 u62 u63 u64 u65 u66 u67 u68 u69 u70 u71 u72 u73 u74 u75 u76 u77 u78 u79 u80 u81 u82 u83 u84 u85 u86 u87 u88 u89 u90 u91 u92 u93 u94 u95 u96 u97 u98 u99 u100 u101 u102 u103 u104 u105 u106 u107 u108 u109 u110 u111 u112 u113 u114 u115 u116 u117 u118 u119 u120 u121 u122 u123 u124 u125 u126 u127 u128 u129 u130 u131 u132 u133
      · have hxx := may_x hmay (.inr (.inr (.inl e)))
        have hga := may_arg hmay e
        refine vround_cap u1 u3 u4 u5 u8 u9 u10 u11 u12 u13 u14 u15 u16 u17 u18 u19 u20 u21 u22 u23 u24 u25 u26 u27 u28 u29 u30 u31 u32 u33 u34 u35 u36 u37 u38 u39 u40 u41 u42 u43 u44 u45 u46 u47 u48 u49 u50 u51 u52 u53 u54 u55 u56 u57 u58 u59 u60 u61 u62 u63 u64 u65 u66 u67 u68 u69 u70 u71 u72 u73 u74 u75 u76 u77 u78 u79 u80 u81 u82 u83 u84 u85 u86 u87 u88 u89 u90 u91 u92 u93 u94 u95 u96 u97 u98 u99 u100 u101 u102 u103 u104 u105 u106 u107 u108 u109 u110 u111 u112 u113 u114 u115 u116 u117 u118 u119 u120 u121 u122 u123 u124 u125 u126 u127 u128 u129 u130 u131 u132 u133 hv (by omega) (by omega) hmm hx.rp hu e (ixn := u.I.x.toNat) (ca := u.I.arg.toNat) (by omega) (by omega) (by omega) (by rw [hx.cl]; omega) (by rw [hx.cl]; omega) ?_
        intro u1 u3 u4 u5 u8 u9 u10 u11 u12 u13 u14 u15 u16 u17 u18 u19 u20 u21 u22 u23 u24 u25 u26 u27 u28 u29 u30 u31 u32 u33 u34 u35 u36 u37 u38 u39 u40 u41 u42 u43 u44 u45 u46 u47 u48 u49 u50 u51 u52 u53 u54 u55 u56 u57 u58 u59 u60 u61 u62 u63 u64 u65 u66 u67 u68 u69 u70 u71 u72 u73 u74 u75 u76 u77 u78 u79 u80 u81 u82 u83 u84 u85 u86 u87 u88 u89 u90 u91 u92 u93 u94 u95 u96 u97 u98 u99 u100 u101 u102 u103 u104 u105 u106 u107 u108 u109 u110 u111 u112 u113 u114 u115 u116 u117 u118 u119 u120 u121 u122 u123 u124 u125 u126 u127 u128 u129 u130 u131 u132 u133 LF' LV' st' w' g' hv'
        have := hless hv'
        exact hnext _ _ _ _ _ _ _ _ (by rw [List.length_append, List.length_singleton, List.length_cons]; omega) hv' (hg.eps hmm hxI (by rw [e]; decide) (by rw [e]; decide) (by rw [strip_cap e]; rfl)) u1 u3 u4 u5 u8 u9 u10 u11 u12 u13 u14 u15 u16 u17 u18 u19 u20 u21 u22 u23 u24 u25 u26 u27 u28 u29 u30 u31 u32 u33 u34 u35 u36 u37 u38 u39 u40 u41 u42 u43 u44 u45 u46 u47 u48 u49 u50 u51 u52 u53 u54 u55 u56 u57 u58 u59 u60 u61 u62 u63 u64 u65 u66 u67 u68 u69 u70 u71 u72 u73 u74 u75 u76 u77 u78 u79 u80 u81 u82 u83 u84 u85 u86 u87 u88 u89 u90 u91 u92 u93 u94 u95 u96 u97 u98 u99 u100 u101 u102 u103 u104 u105 u106 u107 u108 u109 u110 u111 u112 u113 u114 u115 u116 u117 u118 u119 u120 u121 u122 u123 u124 u125 u126 u127 u128 u129 u130 u131 u132 u133
      · have hxx := may_x hmay (.inr (.inr (.inr (.inl e))))
        obtain ⟨j6, hj6, harg⟩ := may_as hmay e
        have hbd := atBits_bd t k
        cases hb : asB t k u.I.arg with
        | false =>
          refine vround_asF u1 u3 u4 u5 u8 u9 u10 u11 u12 u13 u14 u15 u16 u17 u18 u19 u20 u21 u22 u23 u24 u25 u26 u27 u28 u29 u30 u31 u32 u33 u34 u35 u36 u37 u38 u39 u40 u41 u42 u43 u44 u45 u46 u47 u48 u49 u50 u51 u52 u53 u54 u55 u56 u57 u58 u59 u60 u61 u62 u63 u64 u65 u66 u67 u68 u69 u70 u71 u72 u73 u74 u75 u76 u77 u78 u79 u80 u81 u82 u83 u84 u85 u86 u87 u88 u89 u90 u91 u92 u93 u94 u95 u96 u97 u98 u99 u100 u101 u102 u103 u104 u105 u106 u107 u108 u109 u110 u111 u112 u113 u114 u115 u116 u117 u118 u119 u120 u121 u122 u123 u124 u125 u126 u127 u128 u129 u130 u131 u132 u133 hv (by omega) (by omega) hmm hx.rp hu e (ixn := u.I.x.toNat) (by omega) hbd.1 (by omega) hj6 harg hb ?_
          intro u1 u3 u4 u5 u8 u9 u10 u11 u12 u13 u14 u15 u16 u17 u18 u19 u20 u21 u22 u23 u24 u25 u26 u27 u28 u29 u30 u31 u32 u33 u34 u35 u36 u37 u38 u39 u40 u41 u42 u43 u44 u45 u46 u47 u48 u49 u50 u51 u52 u53 u54 u55 u56 u57 u58 u59 u60 u61 u62 u63 u64 u65 u66 u67 u68 u69 u70 u71 u72 u73 u74 u75 u76 u77 u78 u79 u80 u81 u82 u83 u84 u85 u86 u87 u88 u89 u90 u91 u92 u93 u94 u95 u96 u97 u98 u99 u100 u101 u102 u103 u104 u105 u106 u107 u108 u109 u110 u111 u112 u113 u114 u115 u116 u117 u118 u119 u120 u121 u122 u123 u124 u125 u126 u127 u128 u129 u130 u131 u132 u133 LF' LV' st' w' hv'
          have := hless hv'
          exact hnext _ _ _ _ _ _ _ _ (by rw [List.length_append, List.length_singleton]; omega) hv' (hg.eps hmm hxI (by rw [e]; decide) (by rw [e]; decide) (by rw [strip_as e, hb]; rfl)) u1 u3 u4 u5 u8 u9 u10 u11 u12 u13 u14 u15 u16 u17 u18 u19 u20 u21 u22 u23 u24 u25 u26 u27 u28 u29 u30 u31 u32 u33 u34 u35 u36 u37 u38 u39 u40 u41 u42 u43 u44 u45 u46 u47 u48 u49 u50 u51 u52 u53 u54 u55 u56 u57 u58 u59 u60 u61 u62 u63 u64 u65 u66 u67 u68 u69 u70 u71 u72 u73 u74 u75 u76 u77 u78 u79 u80 u81 u82 u83 u84 u85 u86 u87 u88 u89 u90 u91 u92 u93 u94 u95 u96 u97 u98 u99 u100 u101 u102 u103 u104 u105 u106 u107 u108 u109 u110 u111 u112 u113 u114 u115 u116 u117 u118 u119 u120 u121 u122 u123 u124 u125 u126 u127 u128 u129 u130 u131 u132 u133
        | true =>
          refine vround_asT u1 u3 u4 u5 u8 u9 u10 u11 u12 u13 u14 u15 u16 u17 u18 u19 u20 u21 u22 u23 u24 u25 u26 u27 u28 u29 u30 u31 u32 u33 u34 u35 u36 u37 u38 u39 u40 u41 u42 u43 u44 u45 u46 u47 u48 u49 u50 u51 u52 u53 u54 u55 u56 u57 u58 u59 u60 u61 u62 u63 u64 u65 u66 u67 u68 u69 u70 u71 u72 u73 u74 u75 u76 u77 u78 u79 u80 u81 u82 u83 u84 u85 u86 u87 u88 u89 u90 u91 u92 u93 u94 u95 u96 u97 u98 u99 u100 u101 u102 u103 u104 u105 u106 u107 u108 u109 u110 u111 u112 u113 u114 u115 u116 u117 u118 u119 u120 u121 u122 u123 u124 u125 u126 u127 u128 u129 u130 u131 u132 u133 hv (by omega) (by omega) hmm hx.rp hu e (ixn := u.I.x.toNat) (by omega) (by omega) hbd.1 (by omega) hj6 harg hb ?_
          intro u1 u3 u4 u5 u8 u9 u10 u11 u12 u13 u14 u15 u16 u17 u18 u19 u20 u21 u22 u23 u24 u25 u26 u27 u28 u29 u30 u31 u32 u33 u34 u35 u36 u37 u38 u39 u40 u41 u42 u43 u44 u45 u46 u47 u48 u49 u50 u51 u52 u53 u54 u55 u56 u57 u58 u59 u60 u61 u62 u63 u64 u65 u66 u67 u68 u69 u70 u71 u72 u73 u74 u75 u76 u77 u78 u79 u80 u81 u82 u83 u84 u85 u86 u87 u88 u89 u90 u91 u92 u93 u94 u95 u96 u97 u98 u99 u100 u101 u102 u103 u104 u105 u106 u107 u108 u109 u110 u111 u112 u113 u114 u115 u116 u117 u118 u119 u120 u121 u122 u123 u124 u125 u126 u127 u128 u129 u130 u131 u132 u133 LF' LV' st' w' hv'
          have := hless hv'
          exact hnext _ _ _ _ _ _ _ _ (by rw [List.length_append, List.length_singleton, List.length_cons]; omega) hv' (hg.eps hmm hxI (by rw [e]; decide) (by rw [e]; decide) (by rw [strip_as e, hb]; rfl)) u1 u3 u4 u5 u8 u9 u10 u11 u12 u13 u14 u15 u16 u17 u18 u19 u20 u21 u22 u23 u24 u25 u26 u27 u28 u29 u30 u31 u32 u33 u34 u35 u36 u37 u38 u39 u40 u41 u42 u43 u44 u45 u46 u47 u48 u49 u50 u51 u52 u53 u54 u55 u56 u57 u58 u59 u60 u61 u62 u63 u64 u65 u66 u67 u68 u69 u70 u71 u72 u73 u74 u75 u76 u77 u78 u79 u80 u81 u82 u83 u84 u85 u86 u87 u88 u89 u90 u91 u92 u93 u94 u95 u96 u97 u98 u99 u100 u101 u102 u103 u104 u105 u106 u107 u108 u109 u110 u111 u112 u113 u114 u115 u116 u117 u118 u119 u120 u121 u122 u123 u124 u125 u126 u127 u128 u129 u130 u131 u132 u133
      · refine vround_match u1 u3 u4 u5 u8 u9 u10 u11 u12 u13 u14 u15 u16 u17 u18 u19 u20 u21 u22 u23 u24 u25 u26 u27 u28 u29 u30 u31 u32 u33 u34 u35 u36 u37 u38 u39 u40 u41 u42 u43 u44 u45 u46 u47 u48 u49 u50 u51 u52 u53 u54 u55 u56 u57 u58 u59 u60 u61 u62 u63 u64 u65 u66 u67 u68 u69 u70 u71 u72 u73 u74 u75 u76 u77 u78 u79 u80 u81 u82 u83 u84 u85 u86 u87 u88 u89 u90 u91 u92 u93 u94 u95 u96 u97 u98 u99 u100 u101 u102 u103 u104 u105 u106 u107 u108 u109 u110 u111 u112 u113 u114 u115 u116 u117 u118 u119 u120 u121 u122 u123 u124 u125 u126 u127 u128 u129 u130 u131 u132 u133 hv (by omega) (by omega) hmm hx.rp hu e ?_
        intro u1 u3 u4 u5 u8 u9 u10 u11 u12 u13 u14 u15 u16 u17 u18 u19 u20 u21 u22 u23 u24 u25 u26 u27 u28 u29 u30 u31 u32 u33 u34 u35 u36 u37 u38 u39 u40 u41 u42 u43 u44 u45 u46 u47 u48 u49 u50 u51 u52 u53 u54 u55 u56 u57 u58 u59 u60 u61 u62 u63 u64 u65 u66 u67 u68 u69 u70 u71 u72 u73 u74 u75 u76 u77 u78 u79 u80 u81 u82 u83 u84 u85 u86 u87 u88 u89 u90 u91 u92 u93 u94 u95 u96 u97 u98 u99 u100 u101 u102 u103 u104 u105 u106 u107 u108 u109 u110 u111 u112 u113 u114 u115 u116 u117 u118 u119 u120 u121 u122 u123 u124 u125 u126 u127 u128 u129 u130 u131 u132 u133 LF' LV' st' w' hv'
        exact h2 u1 u3 u4 u5 u8 u9 u10 u11 u12 u13 u14 u15 u16 u17 u18 u19 u20 u21 u22 u23 u24 u25 u26 u27 u28 u29 u30 u31 u32 u33 u34 u35 u36 u37 u38 u39 u40 u41 u42 u43 u44 u45 u46 u47 u48 u49 u50 u51 u52 u53 u54 u55 u56 u57 u58 u59 u60 u61 u62 u63 u64 u65 u66 u67 u68 u69 u70 u71 u72 u73 u74 u75 u76 u77 u78 u79 u80 u81 u82 u83 u84 u85 u86 u87 u88 u89 u90 u91 u92 u93 u94 u95 u96 u97 u98 u99 u100 u101 u102 u103 u104 u105 u106 u107 u108 u109 u110 u111 u112 u113 u114 u115 u116 u117 u118 u119 u120 u121 u122 u123 u124 u125 u126 u127 u128 u129 u130 u131 u132 u133 LF' w' ⟨v.g, v.c, u.I.arg⟩ ⟨LV', NV, _, nxt, st', l, hv', hg.hit hmm hxI e⟩
      · refine vround_fail u1 u3 u4 u5 u8 u9 u10 u11 u12 u13 u14 u15 u16 u17 u18 u19 u20 u21 u22 u23 u24 u25 u26 u27 u28 u29 u30 u31 u32 u33 u34 u35 u36 u37 u38 u39 u40 u41 u42 u43 u44 u45 u46 u47 u48 u49 u50 u51 u52 u53 u54 u55 u56 u57 u58 u59 u60 u61 u62 u63 u64 u65 u66 u67 u68 u69 u70 u71 u72 u73 u74 u75 u76 u77 u78 u79 u80 u81 u82 u83 u84 u85 u86 u87 u88 u89 u90 u91 u92 u93 u94 u95 u96 u97 u98 u99 u100 u101 u102 u103 u104 u105 u106 u107 u108 u109 u110 u111 u112 u113 u114 u115 u116 u117 u118 u119 u120 u121 u122 u123 u124 u125 u126 u127 u128 u129 u130 u131 u132 u133 hv (by omega) (by omega) hmm hx.rp hu e ?_
        intro u1 u3 u4 u5 u8 u9 u10 u11 u12 u13 u14 u15 u16 u17 u18 u19 u20 u21 u22 u23 u24 u25 u26 u27 u28 u29 u30 u31 u32 u33 u34 u35 u36 u37 u38 u39 u40 u41 u42 u43 u44 u45 u46 u47 u48 u49 u50 u51 u52 u53 u54 u55 u56 u57 u58 u59 u60 u61 u62 u63 u64 u65 u66 u67 u68 u69 u70 u71 u72 u73 u74 u75 u76 u77 u78 u79 u80 u81 u82 u83 u84 u85 u86 u87 u88 u89 u90 u91 u92 u93 u94 u95 u96 u97 u98 u99 u100 u101 u102 u103 u104 u105 u106 u107 u108 u109 u110 u111 u112 u113 u114 u115 u116 u117 u118 u119 u120 u121 u122 u123 u124 u125 u126 u127 u128 u129 u130 u131 u132 u133 LF' LV' st' w' hv'
        have := hless hv'
        exact hnext _ _ _ _ _ _ _ _ (by rw [List.length_append, List.length_singleton]; omega) hv' (hg.eps hmm hxI (by rw [e]; decide) (by rw [e]; decide) (by rw [strip_fail e]; rfl)) u1 u3 u4 u5 u8 u9 u10 u11 u12 u13 u14 u15 u16 u17 u18 u19 u20 u21 u22 u23 u24 u25 u26 u27 u28 u29 u30 u31 u32 u33 u34 u35 u36 u37 u38 u39 u40 u41 u42 u43 u44 u45 u46 u47 u48 u49 u50 u51 u52 u53 u54 u55 u56 u57 u58 u59 u60 u61 u62 u63 u64 u65 u66 u67 u68 u69 u70 u71 u72 u73 u74 u75 u76 u77 u78 u79 u80 u81 u82 u83 u84 u85 u86 u87 u88 u89 u90 u91 u92 u93 u94 u95 u96 u97 u98 u99 u100 u101 u102 u103 u104 u105 u106 u107 u108 u109 u110 u111 u112 u113 u114 u115 u116 u117 u118 u119 u120 u121 u122 u123 u124 u125 u126 u127 u128 u129 u130 u131 u132 u133
      · have hxx := may_x hmay (.inr (.inr (.inr (.inr e))))
        refine vround_nop u1 u3 u4 u5 u8 u9 u10 u11 u12 u13 u14 u15 u16 u17 u18 u19 u20 u21 u22 u23 u24 u25 u26 u27 u28 u29 u30 u31 u32 u33 u34 u35 u36 u37 u38 u39 u40 u41 u42 u43 u44 u45 u46 u47 u48 u49 u50 u51 u52 u53 u54 u55 u56 u57 u58 u59 u60 u61 u62 u63 u64 u65 u66 u67 u68 u69 u70 u71 u72 u73 u74 u75 u76 u77 u78 u79 u80 u81 u82 u83 u84 u85 u86 u87 u88 u89 u90 u91 u92 u93 u94 u95 u96 u97 u98 u99 u100 u101 u102 u103 u104 u105 u106 u107 u108 u109 u110 u111 u112 u113 u114 u115 u116 u117 u118 u119 u120 u121 u122 u123 u124 u125 u126 u127 u128 u129 u130 u131 u132 u133 hv (by omega) (by omega) hmm hx.rp hu e (ixn := u.I.x.toNat) (by omega) (by omega) ?_
        intro u1 u3 u4 u5 u8 u9 u10 u11 u12 u13 u14 u15 u16 u17 u18 u19 u20 u21 u22 u23 u24 u25 u26 u27 u28 u29 u30 u31 u32 u33 u34 u35 u36 u37 u38 u39 u40 u41 u42 u43 u44 u45 u46 u47 u48 u49 u50 u51 u52 u53 u54 u55 u56 u57 u58 u59 u60 u61 u62 u63 u64 u65 u66 u67 u68 u69 u70 u71 u72 u73 u74 u75 u76 u77 u78 u79 u80 u81 u82 u83 u84 u85 u86 u87 u88 u89 u90 u91 u92 u93 u94 u95 u96 u97 u98 u99 u100 u101 u102 u103 u104 u105 u106 u107 u108 u109 u110 u111 u112 u113 u114 u115 u116 u117 u118 u119 u120 u121 u122 u123 u124 u125 u126 u127 u128 u129 u130 u131 u132 u133 LF' LV' st' w' hv'
        have := hless hv'
        exact hnext _ _ _ _ _ _ _ _ (by rw [List.length_append, List.length_singleton, List.length_cons]; omega) hv' (hg.eps hmm hxI (by rw [e]; decide) (by rw [e]; decide) (by rw [strip_nop e]; rfl)) u1 u3 u4 u5 u8 u9 u10 u11 u12 u13 u14 u15 u16 u17 u18 u19 u20 u21 u22 u23 u24 u25 u26 u27 u28 u29 u30 u31 u32 u33 u34 u35 u36 u37 u38 u39 u40 u41 u42 u43 u44 u45 u46 u47 u48 u49 u50 u51 u52 u53 u54 u55 u56 u57 u58 u59 u60 u61 u62 u63 u64 u65 u66 u67 u68 u69 u70 u71 u72 u73 u74 u75 u76 u77 u78 u79 u80 u81 u82 u83 u84 u85 u86 u87 u88 u89 u90 u91 u92 u93 u94 u95 u96 u97 u98 u99 u100 u101 u102 u103 u104 u105 u106 u107 u108 u109 u110 u111 u112 u113 u114 u115 u116 u117 u118 u119 u120 u121 u122 u123 u124 u125 u126 u127 u128 u129 u130 u131 u132 u133

set_option maxRecDepth 1000000 in
set_option maxHeartbeats 4000000 in
/-- The loop of visit. -/
theorem visit_loop (x : Px) (we : World) (LV0 NV0 : Value) (p : Prg) (t : List Int) (k : Nat) (f : Option Fd) (s0 : List (Nat × List Int)) (V0 : Nat → Bool) (n0 : List (Nat × List Int)) (L : List InV) (hx : Kx x p t L) (hk : k ≤ x.nt) {Q : Exit → Act → World → Prop}
    (u1 u3 u4 u5 u8 u9 u10 u11 u12 u13 u14 u15 u16 u17 u18 u19 u20 u21 u22 u23 u24 u25 u26 u27 u28 u29 u30 u31 u32 u33 u34 u35 u36 u37 u38 u39 u40 u41 u42 u43 u44 u45 u46 u47 u48 u49 u50 u51 u52 u53 u54 u55 u56 u57 u58 u59 u60 u61 u62 u63 u64 u65 u66 u67 u68 u69 u70 u71 u72 u73 u74 u75 u76 u77 u78 u79 u80 u81 u82 u83 u84 u85 u86 u87 u88 u89 u90 u91 u92 u93 u94 u95 u96 u97 u98 u99 u100 u101 u102 u103 u104 u105 u106 u107 u108 u109 u110 u111 u112 u113 u114 u115 u116 u117 u118 u119 u120 u121 u122 u123 u124 u125 u126 u127 u128 u129 u130 u131 u132 u133 : Value) (LF : Value) (left : List TV) (LV NV : Value) (met : List Nat) (nxt : List TV) (st : Int) (w : World) (hv : Vi x we LV0 NV0 LF left LV NV met nxt k (atBits t k) f st w) (hg : Gh p t k s0 V0 n0 left met nxt) (hm : 2 * (x.n - met.length) + left.length ≤ 100000)
    (h1 : ∀ (u1 u3 u4 u5 u8 u9 u10 u11 u12 u13 u14 u15 u16 u17 u18 u19 u20 u21 u22 u23 u24 u25 u26 u27 u28 u29 u30 u31 u32 u33 u34 u35 u36 u37 u38 u39 u40 u41 u42 u43 u44 u45 u46 u47 u48 u49 u50 u51 u52 u53 u54 u55 u56 u57 u58 u59 u60 u61 u62 u63 u64 u65 u66 u67 u68 u69 u70 u71 u72 u73 u74 u75 u76 u77 u78 u79 u80 u81 u82 u83 u84 u85 u86 u87 u88 u89 u90 u91 u92 u93 u94 u95 u96 u97 u98 u99 u100 u101 u102 u103 u104 u105 u106 u107 u108 u109 u110 u111 u112 u113 u114 u115 u116 u117 u118 u119 u120 u121 u122 u123 u124 u125 u126 u127 u128 u129 u130 u131 u132 u133 : Value) (LF : Value) (w' : World), (∃ (LV NV : Value) (met : List Nat) (nxt : List TV) (st : Int) (l : List TV), Vi x we LV0 NV0 LF l LV NV met nxt k (atBits t k) f st w' ∧ nxt.length ≤ met.length ∧ ∃ E0, prs nxt = n0 ++ E0 ∧ Clo p t k s0 V0 E0 none (isIn met)) → Q (.exit 0) ⟨#[(.pointer (some ⟨x.rb, 0, none⟩)), u1, (.func (.func 38) #[.pointer (some ⟨x.rb, 0, none⟩)] #[]), u3, u4, u5, (.bool false), LF, u8, u9, u10, u11, u12, u13, u14, u15, u16, u17, u18, u19, u20, u21, u22, u23, u24, u25, u26, u27, u28, u29, u30, u31, u32, u33, u34, u35, u36, u37, u38, u39, u40, u41, u42, u43, u44, u45, u46, u47, u48, u49, u50, u51, u52, u53, u54, u55, u56, u57, u58, u59, u60, u61, u62, u63, u64, u65, u66, u67, u68, u69, u70, u71, u72, u73, u74, u75, u76, u77, u78, u79, u80, u81, u82, u83, u84, u85, u86, u87, u88, u89, u90, u91, u92, u93, u94, u95, u96, u97, u98, u99, u100, u101, u102, u103, u104, u105, u106, u107, u108, u109, u110, u111, u112, u113, u114, u115, u116, u117, u118, u119, u120, u121, u122, u123, u124, u125, u126, u127, u128, u129, u130, u131, u132, u133], []⟩ w')
    (h2 : ∀ (u1 u3 u4 u5 u8 u9 u10 u11 u12 u13 u14 u15 u16 u17 u18 u19 u20 u21 u22 u23 u24 u25 u26 u27 u28 u29 u30 u31 u32 u33 u34 u35 u36 u37 u38 u39 u40 u41 u42 u43 u44 u45 u46 u47 u48 u49 u50 u51 u52 u53 u54 u55 u56 u57 u58 u59 u60 u61 u62 u63 u64 u65 u66 u67 u68 u69 u70 u71 u72 u73 u74 u75 u76 u77 u78 u79 u80 u81 u82 u83 u84 u85 u86 u87 u88 u89 u90 u91 u92 u93 u94 u95 u96 u97 u98 u99 u100 u101 u102 u103 u104 u105 u106 u107 u108 u109 u110 u111 u112 u113 u114 u115 u116 u117 u118 u119 u120 u121 u122 u123 u124 u125 u126 u127 u128 u129 u130 u131 u132 u133 : Value) (LF : Value) (w' : World) (d : Fd), (∃ (LV NV : Value) (met : List Nat) (nxt : List TV) (st : Int) (l : List TV), Vi x we LV0 NV0 LF l LV NV met nxt k (atBits t k) (some d) st w' ∧ nxt.length ≤ met.length ∧ ∃ E0, prs nxt = n0 ++ E0 ∧ Clo p t k s0 V0 E0 (some d.res) (isIn met)) → Q .ret ⟨#[(.pointer (some ⟨x.rb, 0, none⟩)), u1, (.func (.func 38) #[.pointer (some ⟨x.rb, 0, none⟩)] #[]), u3, u4, u5, (.bool true), LF, u8, u9, u10, u11, u12, u13, u14, u15, u16, u17, u18, u19, u20, u21, u22, u23, u24, u25, u26, u27, u28, u29, u30, u31, u32, u33, u34, u35, u36, u37, u38, u39, u40, u41, u42, u43, u44, u45, u46, u47, u48, u49, u50, u51, u52, u53, u54, u55, u56, u57, u58, u59, u60, u61, u62, u63, u64, u65, u66, u67, u68, u69, u70, u71, u72, u73, u74, u75, u76, u77, u78, u79, u80, u81, u82, u83, u84, u85, u86, u87, u88, u89, u90, u91, u92, u93, u94, u95, u96, u97, u98, u99, u100, u101, u102, u103, u104, u105, u106, u107, u108, u109, u110, u111, u112, u113, u114, u115, u116, u117, u118, u119, u120, u121, u122, u123, u124, u125, u126, u127, u128, u129, u130, u131, u132, u133], []⟩ w')
    : Code.wp Try.prog (.loop visitBody) Q ⟨#[(.pointer (some ⟨x.rb, 0, none⟩)), u1, (.func (.func 38) #[.pointer (some ⟨x.rb, 0, none⟩)] #[]), u3, u4, u5, (.bool false), LF, u8, u9, u10, u11, u12, u13, u14, u15, u16, u17, u18, u19, u20, u21, u22, u23, u24, u25, u26, u27, u28, u29, u30, u31, u32, u33, u34, u35, u36, u37, u38, u39, u40, u41, u42, u43, u44, u45, u46, u47, u48, u49, u50, u51, u52, u53, u54, u55, u56, u57, u58, u59, u60, u61, u62, u63, u64, u65, u66, u67, u68, u69, u70, u71, u72, u73, u74, u75, u76, u77, u78, u79, u80, u81, u82, u83, u84, u85, u86, u87, u88, u89, u90, u91, u92, u93, u94, u95, u96, u97, u98, u99, u100, u101, u102, u103, u104, u105, u106, u107, u108, u109, u110, u111, u112, u113, u114, u115, u116, u117, u118, u119, u120, u121, u122, u123, u124, u125, u126, u127, u128, u129, u130, u131, u132, u133], []⟩ w := by
  refine wp_loop_ghost (VI x we LV0 NV0 p t k f s0 V0 n0) (2 * (x.n - met.length) + left.length) ?_ (fun m a w hI => visit_round x we LV0 NV0 p t k f s0 V0 n0 L hx hk h1 h2 m a w hI)
  unfold VI
  exact ⟨u1, u3, u4, u5, u8, u9, u10, u11, u12, u13, u14, u15, u16, u17, u18, u19, u20, u21, u22, u23, u24, u25, u26, u27, u28, u29, u30, u31, u32, u33, u34, u35, u36, u37, u38, u39, u40, u41, u42, u43, u44, u45, u46, u47, u48, u49, u50, u51, u52, u53, u54, u55, u56, u57, u58, u59, u60, u61, u62, u63, u64, u65, u66, u67, u68, u69, u70, u71, u72, u73, u74, u75, u76, u77, u78, u79, u80, u81, u82, u83, u84, u85, u86, u87, u88, u89, u90, u91, u92, u93, u94, u95, u96, u97, u98, u99, u100, u101, u102, u103, u104, u105, u106, u107, u108, u109, u110, u111, u112, u113, u114, u115, u116, u117, u118, u119, u120, u121, u122, u123, u124, u125, u126, u127, u128, u129, u130, u131, u132, u133, left, LF, ⟨LV, NV, met, nxt, st, hv, Nat.le_refl _, hm, hg⟩, rfl⟩
end Go.Proofs.Yteiggbbljgkloaa
