/- meaning.noted: notes with another one. -/
import Derived.BigQuiet
import Derived.Deep.RegionHeldLaw
import Derived.Test.YteimpcjafgllpaaQ03
import Derived.Test.YteimpcjafgllpaaQ04
namespace Go.Proofs.Yteimpcjafgllpaa
open Go.RowKit
theorem set_map_int (l : List Int) (j : Nat) (x : Int) : (l.map (Value.int .i64)).set j (.int .i64 x) = (l.set j x).map (Value.int .i64) := by rw [List.map_set]
set_option maxHeartbeats 1000000 in
theorem noted_any (N : Option Addr) (n c j : Nat) (nt : List Int) (x : Int) (w : World) (hN : N = none → c = 0) (hr : Reads w w.heap.size 1 N n c (nt.map (Value.int .i64))) (hn : n ≤ 1099511627776) (hj : j < n) :
    Calls Try.prog 51 #[.slice N n c, .int .i64 (j : Int), .int .i64 x] w fun e w' => ∃ N' c', e = .returned (.slice N' n c') ∧ Below w.heap.size w w' ∧ RdA w' (fun b => w.heap.size ≤ b ∧ b < w'.heap.size) 1 N' n c' ((nt.set j x).map (Value.int .i64)) := by
  have HR := Lib.hid hr
  have HCL := Lib.hid (clone_any N n c nt w hN hr hn)
  clear hr
  have hji : (j : Int) < (n : Int) := by omega
  go_enter Try.func51, Try.ntmps51
  go_wp2_with fail
  refine HCL.out.mono ?_
  rintro e w1 ⟨v, rfl, ho, hb⟩
  have hl : nt.length = n := by have := HR.out.len; simpa using this
  have hnp : 0 < nt.length := by omega
  obtain ⟨A', c', rfl⟩ := own_shape ho
  obtain ⟨g, rfl, -, hg1, hg2⟩ := own_form ho hnp
  have hg := And.intro hg1 hg2
  have hro := Reads.of_own ho
  have hlt := hro.lt hnp
  have hcj : w1.cell? ⟨g, j, none⟩ = some (.int .i64 (nt.getD j 0)) := by
    rw [ho.cellAt j (by omega), List.getElem?_map, List.getElem?_eq_getElem (show j < nt.length by omega), List.getD_eq_getElem?_getD, List.getElem?_eq_getElem (show j < nt.length by omega)]; rfl
  have hfz : w1.frozen? ⟨g, j, none⟩ = false := ho.frozenAt j
  have HST := Lib.hid (ho.stored j (.int .i64 x))
  have HB := Lib.hid hb
  have HG := Lib.hid hg
  have hlt' := hlt
  rw [hl] at *
  clear ho hro hb
  go_wp2_with fail
  go_ret
  have hst := HST.out.1
  rw [set_map_int] at hst
  have hr2 := Reads.of_own hst
  refine ⟨some ⟨g, 0, none⟩, c', rfl, Below.kept HB.out (Kept.setCell ⟨g, j, none⟩ _) (fun k hk => by simp only [List.mem_singleton] at hk; subst hk; exact HG.out.1) HB.out.size, ?_⟩
  exact ⟨hr2.le, hr2.cap, hr2.len, (fun h => by cases h), fun _ => ⟨g, 0, rfl, ⟨HG.out.1, by simpa using HG.out.2⟩, fun k u hu => hr2.cellAt hu⟩⟩
end Go.Proofs.Yteimpcjafgllpaa
namespace Go.Proofs.Yteimpcjafgllpaa
open Go.RowKit
section
variable {G : Wk} {w w' : World} {s s' : Mean.St} {b : Nat}
theorem Wk.st.out_lt (h : G.st w s) (hb : outB G.ob w = some b) : b < w.heap.size := by
  obtain ⟨v, ps, h1, h2, -⟩ := h.out
  unfold outB at hb
  rw [h1.cell 0] at hb
  simp only [List.getElem?_cons_zero, Option.bind_some] at hb
  rcases h2.2 with ⟨rfl, _⟩ | ⟨g, cap, cur, rfl, _, hh, _⟩
  · simp [Value.ownBlock] at hb
  · obtain rfl : g = b := by simpa [Value.ownBlock] using hb
    exact (Array.getElem?_eq_some_iff.1 hh).1
/-- What is new stays. -/
theorem Wk.st.still_new (h : G.st w s) (hc : G.cst w) (hb : Below w.heap.size w w') (h1 : w.heap.size ≤ b) (h2 : b < w'.heap.size) : G.still w' b := by
  refine ⟨h2, fun hm => ?_⟩
  rcases mem_mut.1 hm with e | e | e
  · have := hc.mb; omega
  · have := hc.ob; omega
  · have hx : outB G.ob w = some b := by unfold outB at e ⊢; rwa [hb.cell (p := ⟨G.ob, 0, none⟩) hc.ob] at e
    have := h.out_lt hx
    omega
theorem Wk.st.kept_below (h : G.st w s) (hc : G.cst w) (hb : Below w.heap.size w w') : G.st w' s := h.below hb hc.mb hc.ob
theorem rd_pos {S : Nat → Prop} {n c : Nat} {A : Option Addr} {xs : List Value} (h : RdA w S 1 A n c xs) (hn : 0 < n) : ∃ b off, A = some ⟨b, off, none⟩ ∧ S b ∧ ∀ j u, xs[j]? = some u → w.cell? ⟨b, off + j, none⟩ = some u := h.2.2.2.2 hn
end
theorem enters {f : FuncId} {fn : Func} (h : Try.prog.funcs[f]? = some fn) (h1 : (fn.name == "runtime.NumGoroutine") = false) (h2 : fn.body.isNone = false) : ∀ args u, (callFunc f args).run Try.prog u = .ok (.enter f args) u := by
  intro args u
  unfold callFunc
  have h1' : ¬ (fn.name = "runtime.NumGoroutine") := by simpa using h1
  have h2' : ¬ (fn.body = none) := by intro e; rw [e] at h2; cases h2
  simp [go_sem, h, h1', h2']
set_option maxHeartbeats 1000000 in
/-- Behind a loop: it is decided about. -/
theorem dec_clo (G : Wk) (s s' : Mean.St) (n : Mean.Un) (K : Mean.Kt) (pl : Nat) (nt : List Int) (h : G.chain s [.dcd n pl nt K] s') : G.does s (.go (.dec n K) pl nt) s' := by
  obtain ⟨s1, hd, rfl⟩ := h
  intro hpl hlen w v N c hc hs hr hk
  obtain ⟨f, bw, bn, bb, v', hf, rfl, h1, h2, h3, h4, h5⟩ := hk
  have HD := Lib.hid (hd h3 hpl hlen w v' N c hc hs hr h5)
  refine ⟨f, _, rfl, Or.elim hf (fun e => by subst e; exact enters Try.func55 (by kernel_rfl) (by kernel_rfl)) (fun e => by subst e; exact enters Try.func72 (by kernel_rfl) (by kernel_rfl)), ?_⟩
  have c1 := h1.2
  have c2 := h2.2
  have c3 := h4.2
  clear hd hc hs hr h1 h2 h4 h5
  rcases hf with rfl | rfl
  · go_enter Try.func55, Try.ntmps55
    go_wp2_with fail
    refine HD.out.mono ?_
    rintro e w2 ⟨rfl, hx⟩
    have HX := Lib.hid hx
    clear hx
    simp only []
    go_wp2_with fail
    go_end0
    exact ⟨rfl, HX.out⟩
  · go_enter Try.func72, Try.ntmps72
    go_wp2_with fail
    refine HD.out.mono ?_
    rintro e w2 ⟨rfl, hx⟩
    have HX := Lib.hid hx
    clear hx
    simp only []
    go_wp2_with fail
    go_end0
    exact ⟨rfl, HX.out⟩
section
variable {G : Wk} {w : World} {s : Mean.St}
theorem kv_func : ∀ {K : Mean.Kt} {v : Value}, G.kv w K v → ∃ f caps, v = .func (Fn.func f) #[] caps ∧ (∀ args u, (callFunc f args).run Try.prog u = .ok (.enter f args) u)
  | .top, _, h => ⟨_, _, h, enters Try.func27 (by kernel_rfl) (by kernel_rfl)⟩
  | .row _ _, _, ⟨_, _, _, _, _, _, _, h, _⟩ => ⟨_, _, h, enters Try.func71 (by kernel_rfl) (by kernel_rfl)⟩
  | .grp _ _, _, ⟨_, _, _, _, h, _⟩ => ⟨_, _, h, enters Try.func52 (by kernel_rfl) (by kernel_rfl)⟩
  | .dec _ _, _, ⟨_, _, _, _, _, hf, h, _⟩ => ⟨_, _, h, Or.elim hf (fun e => by subst e; exact enters Try.func55 (by kernel_rfl) (by kernel_rfl)) (fun e => by subst e; exact enters Try.func72 (by kernel_rfl) (by kernel_rfl))⟩
/-- Three boxes. -/
theorem boxes3 (hc : G.cst w) (hs : G.st w s) (t1 t2 t3 : TypeId) (v1 v2 v3 : Value) :
    G.fr w (((w.alloc (.cells #[v1] t1)).alloc (.cells #[v2] t2)).alloc (.cells #[v3] t3)) ∧ G.st (((w.alloc (.cells #[v1] t1)).alloc (.cells #[v2] t2)).alloc (.cells #[v3] t3)) s ∧
    G.box (((w.alloc (.cells #[v1] t1)).alloc (.cells #[v2] t2)).alloc (.cells #[v3] t3)) w.heap.size v1 ∧ G.box (((w.alloc (.cells #[v1] t1)).alloc (.cells #[v2] t2)).alloc (.cells #[v3] t3)) (w.heap.size + 1) v2 ∧ G.box (((w.alloc (.cells #[v1] t1)).alloc (.cells #[v2] t2)).alloc (.cells #[v3] t3)) (w.heap.size + 1 + 1) v3 := by
  have hb : Below w.heap.size w (((w.alloc (.cells #[v1] t1)).alloc (.cells #[v2] t2)).alloc (.cells #[v3] t3)) := (((Below.refl _ _).alloc (Nat.le_refl _) _).alloc (by simp) _).alloc (by simp; omega) _
  have b1 := ((Blk.new w t1 [v1]).alloc (.cells #[v2] t2)).alloc (.cells #[v3] t3)
  have b2 := (Blk.new (w.alloc (.cells #[v1] t1)) t2 [v2]).alloc (.cells #[v3] t3)
  have b3 := Blk.new ((w.alloc (.cells #[v1] t1)).alloc (.cells #[v2] t2)) t3 [v3]
  rw [show (w.alloc (.cells #[v1] t1)).heap.size = w.heap.size + 1 from by simp] at b2
  rw [show ((w.alloc (.cells #[v1] t1)).alloc (.cells #[v2] t2)).heap.size = w.heap.size + 1 + 1 from by simp] at b3
  refine ⟨hc.below hb, hs.kept_below hc hb, ⟨hs.still_new hc hb (Nat.le_refl _) b1.lt, b1.cell 0⟩, ⟨hs.still_new hc hb (by omega) b2.lt, b2.cell 0⟩, ⟨hs.still_new hc hb (by omega) b3.lt, b3.cell 0⟩⟩
end
set_option maxRecDepth 100000 in
set_option maxHeartbeats 2000000 in
/-- A row of nodes. -/
theorem row_any (G : Wk) (s s' : Mean.St) (l : List Mean.Un) (K : Mean.Kt) (pl : Nat) (nt : List Int) (h : G.does s (Mean.rowT l pl nt K) s') (hl : ∀ x ∈ l, x ∈ G.U) (hpl : pl ≤ G.nt) (hlen : nt.length = G.NL)
    (w : World) (v : Value) (N A : Option Addr) (c sc : Nat) (hc : G.cst w) (hs : G.st w s) (hr : RdA w (G.still w) 1 N G.NL c (nt.map (Value.int .i64))) (hk : G.kv w K v) (ha : RdA w (G.still w) 1 A l.length sc (ptrs l)) :
    Calls Try.prog 50 #[.pointer (some ⟨G.wb, 0, none⟩), .slice A l.length sc, .int .i64 (pl : Int), .slice N G.NL c, v] w fun e w' => e = .returned (.tuple #[]) ∧ G.fr w w' ∧ G.st w' s' := by
  obtain ⟨vf, vc, rfl, -⟩ := kv_func hk
  obtain ⟨f3, hs3, x1, x2, x3⟩ := boxes3 hc hs 47 86 82 (.pointer (some ⟨G.wb, 0, none⟩)) (.slice A l.length sc) (.func (Fn.func vf) #[] vc)
  have HF3 := Lib.hid f3
  have HC3 := Lib.hid (hc.fr f3)
  have HS3 := Lib.hid hs3
  have HR3 := Lib.hid (hr.fr f3)
  have HK3 := Lib.hid (Wk.kv_fr f3 hk)
  have HA3 := Lib.hid (ha.fr f3)
  have X1 := Lib.hid x1
  have X2 := Lib.hid x2
  have X3 := Lib.hid x3
  clear f3 hs3 x1 x2 x3 hc hs hr hk ha
  generalize hw3 : ((w.alloc (.cells #[.pointer (some ⟨G.wb, 0, none⟩)] 47)).alloc (.cells #[.slice A l.length sc] 86)).alloc (.cells #[.func (Fn.func vf) #[] vc] 82) = w3 at *
  cases l with
  | nil =>
    obtain ⟨f, caps, he, hgo, hd⟩ := h hpl hlen w3 _ N c HC3.out HS3.out HR3.out HK3.out
    cases he
    have HD := Lib.hid hd
    clear hd h
    have c2 := X2.out.2
    have c3 := X3.out.2
    go_enter Try.func50, Try.ntmps50
    rw [← hw3] at c2 c3 HD
    go_wp2_with fail
    refine HD.out.mono ?_
    rintro e w4 ⟨rfl, hf4, hs4⟩
    have HF4 := Lib.hid hf4
    have HS4 := Lib.hid hs4
    clear hf4 hs4
    simp only []
    go_wp2_with fail
    rw [hw3] at HF4
    refine bodyPost_ret (results_none rfl _ _ _) rfl ?_
    exact ⟨rfl, HF3.out.trans HF4.out, HS4.out⟩
  | cons s0 l =>
    obtain ⟨ab, ao, rfl, hab, hac⟩ := rd_pos HA3.out (by simp)
    have c0 : w3.drew.cell? ⟨ab, ao, none⟩ = some (.pointer (some ⟨s0.ad, 0, none⟩)) := hac 0 _ rfl
    have c1 := X1.out.2
    have c2 := X2.out.2
    have d1 : w3.drew.cell? ⟨w.heap.size, 0, none⟩ = some (.pointer (some ⟨G.wb, 0, none⟩)) := X1.out.2
    have d2 : w3.drew.cell? ⟨w.heap.size + 1, 0, none⟩ = some (.slice (some ⟨ab, ao, none⟩) (l.length + 1) sc) := X2.out.2
    have d3 : w3.drew.cell? ⟨w.heap.size + 1 + 1, 0, none⟩ = some (.func (Fn.func vf) #[] vc) := X3.out.2
    have hgt : (0 : Int) < ((l.length : Int) + 1) := by omega
    have hne : (((l.length : Int) + 1) == 0) = false := beq_eq_false_iff_ne.2 (by omega)
    have fd : G.fr w3 w3.drew := HC3.out.below (bdrewN (Below.refl _ _) 1)
    have hkv : G.kv w3.drew (.row l K) (.func (Fn.func 71) #[] #[.pointer (some ⟨w.heap.size, 0, none⟩), .pointer (some ⟨w.heap.size + 1, 0, none⟩), .pointer (some ⟨w.heap.size + 1 + 1, 0, none⟩)]) :=
      ⟨w.heap.size, w.heap.size + 1, w.heap.size + 1 + 1, some ⟨ab, ao, none⟩, sc, s0, _, rfl, X1.out.fr fd, X2.out.fr fd, HA3.out.fr fd, fun x hx => hl x (List.mem_cons_of_mem _ hx), X3.out.fr fd, Wk.kv_fr fd HK3.out⟩
    have HD := Lib.hid (h (hl s0 List.mem_cons_self) hpl hlen w3.drew _ N c (HC3.out.fr fd) (HS3.out.below (bdrewN (Below.refl _ _) 1) HC3.out.mb HC3.out.ob) (HR3.out.fr fd) hkv)
    have HFD := Lib.hid fd
    have SAB := Lib.hid hab
    clear h hkv fd hab hac hl
    simp only [List.length_cons] at *
    go_enter Try.func50, Try.ntmps50
    go_wp2_with fail
    have kA : w3.drew.cell? ⟨w.heap.size, 0, none⟩ = some (.pointer (some ⟨G.wb, 0, none⟩)) ∧ w3.drew.cell? ⟨w.heap.size + 1, 0, none⟩ = some (.slice (some ⟨ab, ao, none⟩) (l.length + 1) sc) ∧ w3.drew.cell? ⟨ab, ao, none⟩ = some (.pointer (some ⟨s0.ad, 0, none⟩)) := ⟨d1, d2, c0⟩
    have hSB := SAB.out
    clear c0 d1 d2 d3
    go_region_held_law (fun u => u.cell? ⟨w.heap.size, 0, none⟩ = some (.pointer (some ⟨G.wb, 0, none⟩)) ∧ u.cell? ⟨w.heap.size + 1, 0, none⟩ = some (.slice (some ⟨ab, ao, none⟩) (l.length + 1) sc) ∧ u.cell? ⟨ab, ao, none⟩ = some (.pointer (some ⟨s0.ad, 0, none⟩))) (first | with_reducible exact kA | with_reducible exact kB)
      (first | (go_at_call 25; (with_reducible refine HD.out.mono ?_); rintro e w4 ⟨rfl, hx⟩; have HX := Lib.hid hx; have kB : w4.cell? ⟨w.heap.size, 0, none⟩ = some (.pointer (some ⟨G.wb, 0, none⟩)) ∧ w4.cell? ⟨w.heap.size + 1, 0, none⟩ = some (.slice (some ⟨ab, ao, none⟩) (l.length + 1) sc) ∧ w4.cell? ⟨ab, ao, none⟩ = some (.pointer (some ⟨s0.ad, 0, none⟩)) := ⟨((X1.out.1.fr HFD.out).cell hx.1 0).trans kA.1, ((X2.out.1.fr HFD.out).cell hx.1 0).trans kA.2.1, ((SAB.out.fr HFD.out).cell hx.1 ao).trans kA.2.2⟩; clear hx; simp only []))
    go_end0
    exact ⟨rfl, HF3.out.trans (HFD.out.trans HX.out.1), HX.out.2⟩
set_option maxRecDepth 100000 in
set_option maxHeartbeats 2000000 in
/-- Behind a node of a row: the rest of it. -/
theorem row_clo (G : Wk) (s s' : Mean.St) (l : List Mean.Un) (K : Mean.Kt) (pl : Nat) (nt : List Int) (h : G.chain s [Mean.rowT l pl nt K] s') : G.does s (.go (.row l K) pl nt) s' := by
  obtain ⟨s1, hd, rfl⟩ := h
  intro hpl hlen w v N c hc hs hr hk
  obtain ⟨bw, bl, bb, A, sc, s0, v', rfl, h1, h2, h3, h4, h5, h6⟩ := hk
  refine ⟨_, _, rfl, enters Try.func71 (by kernel_rfl) (by kernel_rfl), ?_⟩
  obtain ⟨ab, ao, rfl, hab, hac⟩ := rd_pos h3 (by omega)
  have hsc := h3.1
  have fd : G.fr w w.drew := hc.below (bdrewN (Below.refl _ _) 1)
  obtain ⟨A2, hA2, ha⟩ : ∃ A2 : Option Addr, (A2 = if sc = 1 then some ⟨ab, ao, none⟩ else some ⟨ab, ao + 1, none⟩) ∧ RdA w (G.still w) 1 A2 l.length (sc - 1) (ptrs l) := by
    refine ⟨_, rfl, by omega, by have := h3.2.1; omega, by simp [ptrs], (fun h => by split at h <;> cases h), fun hn => ⟨ab, ao + 1, by rw [if_neg (by omega)], hab, fun j u hu => ?_⟩⟩
    rw [show ao + 1 + j = ao + (j + 1) from by omega]
    exact hac (j + 1) u hu
  have HRW := Lib.hid (row_any G s s' l K pl nt hd h4 hpl hlen w.drew v' N A2 c (sc - 1) (hc.fr fd) (hs.below (bdrewN (Below.refl _ _) 1) hc.mb hc.ob) (hr.fr fd) (Wk.kv_fr fd h6) (ha.fr fd))
  have H1 := Lib.hid h1
  have H2 := Lib.hid h2
  have H5 := Lib.hid h5
  have HFD := Lib.hid fd
  have kA : w.drew.cell? ⟨bw, 0, none⟩ = some (.pointer (some ⟨G.wb, 0, none⟩)) ∧ w.drew.cell? ⟨bl, 0, none⟩ = some (.slice (some ⟨ab, ao, none⟩) (l.length + 1) sc) ∧ w.drew.cell? ⟨bb, 0, none⟩ = some v' := ⟨h1.2, h2.2, h5.2⟩
  clear hd hc hs hr h1 h2 h3 h5 h6 hab hac fd ha
  by_cases hs1 : sc = 1
  · rw [if_pos hs1] at hA2
    subst hs1
    obtain rfl : l = [] := List.eq_nil_of_length_eq_zero (by omega)
    simp only [List.length_nil, Nat.zero_add, Nat.sub_self] at *
    subst hA2
    go_enter Try.func71, Try.ntmps71
    go_wp2_with fail
    go_region_held_law (fun u => u.cell? ⟨bw, 0, none⟩ = some (.pointer (some ⟨G.wb, 0, none⟩)) ∧ u.cell? ⟨bl, 0, none⟩ = some (.slice (some ⟨ab, ao, none⟩) 1 1) ∧ u.cell? ⟨bb, 0, none⟩ = some v') (first | with_reducible exact kA | with_reducible exact kB)
      (first | (go_at_call 50; (with_reducible refine HRW.out.mono ?_); rintro e w4 ⟨rfl, hx⟩; have HX := Lib.hid hx; have kB := And.intro (((H1.out.1.fr HFD.out).cell hx.1 0).trans kA.1) (And.intro (((H2.out.1.fr HFD.out).cell hx.1 0).trans kA.2.1) (((H5.out.1.fr HFD.out).cell hx.1 0).trans kA.2.2)); clear hx; simp only []))
    go_end0
    exact ⟨rfl, HFD.out.trans HX.out.1, HX.out.2⟩
  · rw [if_neg hs1] at hA2
    have hs2 : ¬ (1 = sc) := fun e => hs1 e.symm
    subst hA2
    go_enter Try.func71, Try.ntmps71
    go_wp2_with fail
    go_region_held_law (fun u => u.cell? ⟨bw, 0, none⟩ = some (.pointer (some ⟨G.wb, 0, none⟩)) ∧ u.cell? ⟨bl, 0, none⟩ = some (.slice (some ⟨ab, ao, none⟩) (l.length + 1) sc) ∧ u.cell? ⟨bb, 0, none⟩ = some v') (first | with_reducible exact kA | with_reducible exact kB)
      (first | (go_at_call 50; (with_reducible refine HRW.out.mono ?_); rintro e w4 ⟨rfl, hx⟩; have HX := Lib.hid hx; have kB := And.intro (((H1.out.1.fr HFD.out).cell hx.1 0).trans kA.1) (And.intro (((H2.out.1.fr HFD.out).cell hx.1 0).trans kA.2.1) (((H5.out.1.fr HFD.out).cell hx.1 0).trans kA.2.2)); clear hx; simp only []))
    go_end0
    exact ⟨rfl, HFD.out.trans HX.out.1, HX.out.2⟩
set_option maxRecDepth 100000 in
set_option maxHeartbeats 2000000 in
/-- Behind what is in a group: its end is noted. -/
theorem grp_clo (G : Wk) (s s' : Mean.St) (i : Int) (K : Mean.Kt) (pl : Nat) (nt : List Int) (h : G.chain s [.go K pl (nt.set (2 * i + 1).toNat pl)] s') (hNL : G.NL ≤ 1099511627776) : G.does s (.go (.grp i K) pl nt) s' := by
  obtain ⟨s1, hd, rfl⟩ := h
  intro hpl hlen w v N c hc hs hr hk
  obtain ⟨bb, bn, n, v', rfl, h1, h2, h3, h4, rfl, h5, h6⟩ := hk
  refine ⟨_, _, rfl, enters Try.func52 (by kernel_rfl) (by kernel_rfl), ?_⟩
  obtain ⟨vf, vc, rfl, hgo⟩ := kv_func h2
  obtain ⟨ra, rc, sa, sc, hnd⟩ := hc.nodes n h4
  have fd : G.fr w w.drew := hc.below (bdrewN (Below.refl _ _) 1)
  obtain ⟨j, hj⟩ : ∃ j : Nat, j = (2 * n.ix + 1).toNat := ⟨_, rfl⟩
  have hji : (2 * n.ix + 1) = (j : Int) := by omega
  rw [← hj] at hd
  have HNT := Lib.hid (noted_any N G.NL c j nt (pl : Int) w.drew hr.2.2.2.1 ((hr.fr fd).reads fun b hb => hb.1) hNL (by omega))
  have HD := Lib.hid (hd hpl (by rw [List.length_set]; exact hlen))
  have HC := Lib.hid (hc.fr fd)
  have HS := Lib.hid (hs.below (bdrewN (Below.refl w.heap.size w) 1) hc.mb hc.ob)
  have H1 := Lib.hid (h1.fr fd)
  have H2 := Lib.hid (Wk.kv_fr fd h2)
  have H3 := Lib.hid (h3.fr fd)
  have HND := Lib.hid (hnd.fr fd)
  have HFD := Lib.hid fd
  have hw1 : IntKind.i64.wrap (2 * n.ix) = 2 * n.ix := by rw [IntKind.wrap_i64]; omega
  have hw2 : IntKind.i64.wrap (2 * n.ix + 1) = (j : Int) := by rw [IntKind.wrap_i64]; omega
  have kA : w.drew.cell? ⟨bb, 0, none⟩ = some (.func (Fn.func vf) #[] vc) ∧ w.drew.cell? ⟨bn, 0, none⟩ = some (.pointer (some ⟨n.ad, 0, none⟩)) ∧ w.drew.cell? ⟨n.ad, 3, none⟩ = some (.int .i64 n.ix) := ⟨h1.2, h3.2, hnd.blk.cell 3⟩
  clear hd hc hs hr h1 h2 h3 hnd fd hj hji
  go_enter Try.func52, Try.ntmps52
  go_wp2_with fail
  go_region_held_law (fun u => u.cell? ⟨bb, 0, none⟩ = some (.func (Fn.func vf) #[] vc) ∧ u.cell? ⟨bn, 0, none⟩ = some (.pointer (some ⟨n.ad, 0, none⟩)) ∧ u.cell? ⟨n.ad, 3, none⟩ = some (.int .i64 n.ix)) (first | with_reducible exact kA | with_reducible exact kB | with_reducible exact kC)
    (first
      | (go_at_call 51; (with_reducible refine HNT.out.mono ?_); rintro e w5 ⟨N', c', rfl, hb5, hr5⟩; have f5 := HC.out.below hb5; have HR5 := Lib.hid (hr5.mono fun b hb => HS.out.still_new HC.out hb5 hb.1 hb.2); have HC5 := Lib.hid (HC.out.fr f5); have HS5 := Lib.hid (HS.out.kept_below HC.out hb5); have H25 := Lib.hid (Wk.kv_fr f5 H2.out); have kB := And.intro ((H1.out.1.cell f5 0).trans kA.1) (And.intro ((H3.out.1.cell f5 0).trans kA.2.1) ((HND.out.still.cell f5 3).trans kA.2.2)); have HF5 := Lib.hid f5; clear hb5 hr5 f5; obtain ⟨f9, c9, he9, hg9, hcall⟩ := HD.out w5 _ N' c' HC5.out HS5.out HR5.out H25.out; cases he9; have HCALL := Lib.hid hcall; clear hcall hg9; simp only [])
      | ((with_reducible refine HCALL.out.mono ?_); rintro e w6 ⟨rfl, hx⟩; have HX := Lib.hid hx; have kC := And.intro (((H1.out.1.fr HF5.out).cell hx.1 0).trans kB.1) (And.intro (((H3.out.1.fr HF5.out).cell hx.1 0).trans kB.2.1) (((HND.out.still.fr HF5.out).cell hx.1 3).trans kB.2.2)); clear hx; simp only []))
  go_end0
  exact ⟨rfl, HFD.out.trans (HF5.out.trans HX.out.1), HX.out.2⟩
end Go.Proofs.Yteimpcjafgllpaa
namespace Go.Proofs.Yteimpcjafgllpaa
open Go.RowKit
set_option maxRecDepth 100000 in
set_option maxHeartbeats 2000000 in
/-- What is in a loop, or what comes behind it. -/
theorem choose_any (G : Wk) (s s' : Mean.St) (n : Mean.Un) (pl : Nat) (nt : List Int) (again K : Mean.Kt) (h : G.chain s (Mean.choose n pl nt again K) s') (hn : n ∈ G.U) (hne : n.subs ≠ []) (hU : Mean.Closed G.U) (hpl : pl ≤ G.nt) (hlen : nt.length = G.NL)
    (w : World) (va vk : Value) (N : Option Addr) (c : Nat) (hc : G.cst w) (hs : G.st w s) (hr : RdA w (G.still w) 1 N G.NL c (nt.map (Value.int .i64))) (ha : G.kv w again va) (hk : G.kv w K vk) :
    Calls Try.prog 53 #[.pointer (some ⟨G.wb, 0, none⟩), .pointer (some ⟨n.ad, 0, none⟩), .int .i64 (pl : Int), .slice N G.NL c, va, vk] w fun e w' => e = .returned (.tuple #[]) ∧ G.fr w w' ∧ G.st w' s' := by
  obtain ⟨vf, vc, rfl, hgo⟩ := kv_func hk
  obtain ⟨ra, rc, sa, sc, hnd⟩ := hc.nodes n hn
  obtain ⟨s0, l0, hsub⟩ : ∃ s0 l0, n.subs = s0 :: l0 := by
    cases e : n.subs with
    | nil => exact absurd e hne
    | cons a l => exact ⟨a, l, rfl⟩
  have hs0 : s0 ∈ G.U := hU n hn s0 (by rw [hsub]; exact List.mem_cons_self)
  have hlen0 : n.subs.length = l0.length + 1 := by rw [hsub]; rfl
  have hrd := hnd.subs
  rw [hlen0] at hrd
  obtain ⟨ab, ao, rfl, hab, hac⟩ := rd_pos hrd (by omega)
  have e0 : (ptrs n.subs)[0]? = some (.pointer (some ⟨s0.ad, 0, none⟩)) := by rw [hsub]; rfl
  have c0 := hac 0 _ e0
  rw [Nat.add_zero] at c0
  have n4 : w.cell? ⟨n.ad, 4, none⟩ = some (.bool n.lz) := hnd.blk.cell 4
  have n5 : w.cell? ⟨n.ad, 5, none⟩ = some (.slice (some ⟨ab, ao, none⟩) (l0.length + 1) sc) := by have := hnd.blk.cell 5; rw [hlen0] at this; exact this
  have hgt : (0 : Int) < ((l0.length : Int) + 1) := by omega
  unfold Mean.choose at h
  rw [hsub] at h
  simp only [] at h
  have HST := Lib.hid hnd.still
  have HAB := Lib.hid hab
  have HC := Lib.hid hc
  have HR := Lib.hid hr
  have HA := Lib.hid ha
  have HK := Lib.hid hk
  cases hz : n.lz with
  | true =>
    rw [hz] at n4
    rw [hz, if_pos rfl] at h
    obtain ⟨s1, h1, s2, h2, rfl⟩ := h
    obtain ⟨f9, c9, he9, -, hcall⟩ := h1 hpl hlen w _ N c hc hs hr hk
    cases he9
    have HCALL := Lib.hid hcall
    have HBEG := Lib.hid (h2 hs0 hpl hlen)
    clear h1 h2 hcall hc hs hr ha hk hnd hab hac hrd e0 hsub hne hU
    go_enter Try.func53, Try.ntmps53
    go_wp2_with fail
    refine HCALL.out.mono ?_
    rintro e w4 ⟨rfl, hf4, hs4⟩
    have HF4 := Lib.hid hf4
    have HB := Lib.hid (HBEG.out w4 va N c (HC.out.fr hf4) hs4 (HR.out.fr hf4) (Wk.kv_fr hf4 HA.out))
    have m4 := (HST.out.cell hf4 4).trans n4
    have m5 := (HST.out.cell hf4 5).trans n5
    have m0 := (HAB.out.cell hf4 ao).trans c0
    clear hf4 hs4 n4 n5 c0 HBEG
    simp only []
    go_wp2_with fail
    refine HB.out.mono ?_
    rintro e w5 ⟨rfl, hf5, hs5⟩
    have k4 := ((HST.out.fr HF4.out).cell hf5 4).trans m4
    have HF5 := Lib.hid hf5
    have HS5 := Lib.hid hs5
    clear hf5 hs5 m4 m5 m0
    simp only []
    go_wp2_with fail
    go_end0
    exact ⟨rfl, HF4.out.trans HF5.out, HS5.out⟩
  | false =>
    rw [hz] at n4
    rw [hz, if_neg (by simp)] at h
    obtain ⟨s1, h1, s2, h2, rfl⟩ := h
    have HBEG := Lib.hid (h1 hs0 hpl hlen w va N c hc hs hr ha)
    have HGO := Lib.hid (h2 hpl hlen)
    clear h1 h2 hc hs hr ha hk hnd hab hac hrd e0 hsub hne hU
    go_enter Try.func53, Try.ntmps53
    go_wp2_with fail
    refine HBEG.out.mono ?_
    rintro e w4 ⟨rfl, hf4, hs4⟩
    have HF4 := Lib.hid hf4
    obtain ⟨f9, c9, he9, -, hcall⟩ := HGO.out w4 _ N c (HC.out.fr hf4) hs4 (HR.out.fr hf4) (Wk.kv_fr hf4 HK.out)
    cases he9
    have HCALL := Lib.hid hcall
    have m4 := (HST.out.cell hf4 4).trans n4
    clear hf4 hs4 n4 n5 c0 hcall HGO
    simp only []
    go_wp2_with fail
    refine HCALL.out.mono ?_
    rintro e w5 ⟨rfl, hf5, hs5⟩
    have HF5 := Lib.hid hf5
    have HS5 := Lib.hid hs5
    clear hf5 hs5 m4
    simp only []
    go_wp2_with fail
    go_end0
    exact ⟨rfl, HF4.out.trans HF5.out, HS5.out⟩
set_option maxRecDepth 100000 in
set_option maxHeartbeats 2000000 in
/-- A loop is decided about. -/
theorem decide_any (G : Wk) (hwf : G.wf) (s s' : Mean.St) (n : Mean.Un) (pl : Nat) (nt : List Int) (K : Mean.Kt) (hone : n.subs ≠ []) (hb : s.calls ≤ 4611686018427387904) (h : G.chain (s.mark (n.ad, pl, true)) (if s.met (n.ad, pl, true) = 0 then Mean.choose n pl nt (.dec n K) K else []) s') : G.does s (.dcd n pl nt K) s' := by
  intro hn hpl hlen w v N c hc hs hr hk
  obtain ⟨vf, vc, rfl, hgo⟩ := kv_func hk
  obtain ⟨f3, hs3, x1, x2, x3⟩ := boxes3 hc hs 47 53 82 (.pointer (some ⟨G.wb, 0, none⟩)) (.pointer (some ⟨n.ad, 0, none⟩)) (.func (Fn.func vf) #[] vc)
  have HF3 := Lib.hid f3
  have HC3 := Lib.hid (hc.fr f3)
  have HR3 := Lib.hid (hr.fr f3)
  have HK3 := Lib.hid (Wk.kv_fr f3 hk)
  have HON := Lib.hid (once_any G _ s (n.ad, pl, true) (hc.fr f3) hs3 ⟨n, hn, rfl⟩ hb)
  have X1 := Lib.hid x1
  have X2 := Lib.hid x2
  have X3 := Lib.hid x3
  have c1 := x1.2
  have c2 := x2.2
  have c3 := x3.2
  have HH := Lib.hid h
  clear f3 hs3 x1 x2 x3 hc hs hr hk h
  generalize hw3 : ((w.alloc (.cells #[.pointer (some ⟨G.wb, 0, none⟩)] 47)).alloc (.cells #[.pointer (some ⟨n.ad, 0, none⟩)] 53)).alloc (.cells #[.func (Fn.func vf) #[] vc] 82) = w3 at *
  unfold kv at HON
  go_enter Try.func54, Try.ntmps54
  go_wp2_with fail
  refine HON.out.mono ?_
  rintro e w4 ⟨rfl, hf4, hs4⟩
  have HF4 := Lib.hid hf4
  have HS4 := Lib.hid hs4
  have m1 := (X1.out.fr hf4).2
  have m2 := (X2.out.fr hf4).2
  have m3 := (X3.out.fr hf4).2
  have HC4 := Lib.hid (HC3.out.fr hf4)
  have HR4 := Lib.hid (HR3.out.fr hf4)
  have HK4 := Lib.hid (Wk.kv_fr hf4 HK3.out)
  have Y1 := Lib.hid (X1.out.fr hf4)
  have Y2 := Lib.hid (X2.out.fr hf4)
  have Y3 := Lib.hid (X3.out.fr hf4)
  clear hf4 hs4 c1 c2 c3
  by_cases hm : s.met (n.ad, pl, true) = 0
  · have hmd : decide (s.met (n.ad, pl, true) = 0) = true := by simpa using hm
    have hh := HH.out
    rw [if_pos hm] at hh
    rw [hmd]
    have hkv : G.kv w4 (.dec n K) (.func (Fn.func 72) #[] #[.pointer (some ⟨w.heap.size, 0, none⟩), .pointer (some ⟨w.heap.size + 1, 0, none⟩), .pointer (some ⟨w.heap.size + 1 + 1, 0, none⟩)]) :=
      ⟨_, _, _, _, _, .inr rfl, rfl, Y1.out, Y2.out, hn, Y3.out, HK4.out⟩
    have HCH := Lib.hid (choose_any G _ s' n pl nt (.dec n K) K hh hn hone hwf.closed hpl hlen w4 _ _ N c HC4.out HS4.out HR4.out hkv HK4.out)
    clear hh hkv hmd hm
    simp only []
    go_wp2_with fail
    refine HCH.out.mono ?_
    rintro e w5 ⟨rfl, hf5, hs5⟩
    have HF5 := Lib.hid hf5
    have HS5 := Lib.hid hs5
    clear hf5 hs5
    simp only []
    go_wp2_with fail
    go_end0
    exact ⟨rfl, HF3.out.trans (HF4.out.trans HF5.out), HS5.out⟩
  · have hmd : decide (s.met (n.ad, pl, true) = 0) = false := by simpa using hm
    have hh := HH.out
    rw [if_neg hm] at hh
    rw [hmd]
    obtain rfl : s' = s.mark (n.ad, pl, true) := hh
    simp only []
    go_wp2_with fail
    go_end0
    exact ⟨rfl, HF3.out.trans HF4.out, HS4.out⟩
end Go.Proofs.Yteimpcjafgllpaa
namespace Go.Proofs.Yteimpcjafgllpaa
open Go.RowKit
set_option maxRecDepth 100000 in
set_option maxHeartbeats 4000000 in
theorem beg_met (G : Wk) (hwf : G.wf) (s s' : Mean.St) (n : Mean.Un) (pl : Nat) (nt : List Int) (K : Mean.Kt) (hm : s.met (n.ad, pl, false) ≠ 0) (h : True) (hb : s.calls ≤ 4611686018427387904) : G.does s (.beg n pl nt K) (s.mark (n.ad, pl, false)) := by
  intro hn hpl hlen w v N c hc hs hr hk
  obtain ⟨vf, vc, rfl, hgo⟩ := kv_func hk
  obtain ⟨f3, hs3, x1, x2, x3⟩ := boxes3 hc hs 47 53 82 (.pointer (some ⟨G.wb, 0, none⟩)) (.pointer (some ⟨n.ad, 0, none⟩)) (.func (Fn.func vf) #[] vc)
  have HF3 := Lib.hid f3
  have HC3 := Lib.hid (hc.fr f3)
  have HR3 := Lib.hid (hr.fr f3)
  have HK3 := Lib.hid (Wk.kv_fr f3 hk)
  have HON := Lib.hid (once_any G _ s (n.ad, pl, false) (hc.fr f3) hs3 ⟨n, hn, rfl⟩ hb)
  have X1 := Lib.hid x1
  have X2 := Lib.hid x2
  have X3 := Lib.hid x3
  have c1 := x1.2
  have c2 := x2.2
  have c3 := x3.2
  have HH := Lib.hid h
  have HWF := Lib.hid hwf
  clear f3 hs3 x1 x2 x3 hc hs hr hk h hwf
  generalize hw3 : ((w.alloc (.cells #[.pointer (some ⟨G.wb, 0, none⟩)] 47)).alloc (.cells #[.pointer (some ⟨n.ad, 0, none⟩)] 53)).alloc (.cells #[.func (Fn.func vf) #[] vc] 82) = w3 at *
  unfold kv at HON
  generalize hq1 : w.heap.size = q1 at *
  go_enter Try.func25, Try.ntmps25
  go_wp2_with fail
  refine HON.out.mono ?_
  rintro e w4 ⟨rfl, hf4, hs4⟩
  have HF4 := Lib.hid hf4
  have HS4 := Lib.hid hs4
  have Y1 := Lib.hid (X1.out.fr hf4)
  have Y2 := Lib.hid (X2.out.fr hf4)
  have Y3 := Lib.hid (X3.out.fr hf4)
  have HC4 := Lib.hid (HC3.out.fr hf4)
  have HR4 := Lib.hid (HR3.out.fr hf4)
  have HK4 := Lib.hid (Wk.kv_fr hf4 HK3.out)
  have m1 := Y1.out.2
  have m2 := Y2.out.2
  have m3 := Y3.out.2
  obtain ⟨ra, rc, sa, sc, hnd⟩ := HC4.out.nodes n hn
  have HND := Lib.hid hnd
  have n0 : w4.cell? ⟨n.ad, 0, none⟩ = some (.int .i64 n.kind) := hnd.blk.cell 0
  clear hf4 hs4 hnd c1 c2 c3 HON hw3
  have hmd : decide (s.met (n.ad, pl, false) = 0) = false := by simpa using hm
  rw [hmd]
  simp only []
  go_wp2_with fail
  refine bodyPost_ret (results_none rfl _ _ _) rfl ?_
  exact ⟨rfl, HF3.out.trans HF4.out, HS4.out⟩
end Go.Proofs.Yteimpcjafgllpaa
namespace Go.Proofs.Yteimpcjafgllpaa
open Go.RowKit
set_option maxRecDepth 100000 in
set_option maxHeartbeats 4000000 in
theorem beg_1 (G : Wk) (hwf : G.wf) (s s' : Mean.St) (n : Mean.Un) (pl : Nat) (nt : List Int) (K : Mean.Kt) (hkind : n.kind = 1) (hm : s.met (n.ad, pl, false) = 0) (h : G.chain (s.mark (n.ad, pl, false)) (Mean.first G.t n pl nt K) s') (hb : s.calls ≤ 4611686018427387904) : G.does s (.beg n pl nt K) s' := by
  intro hn hpl hlen w v N c hc hs hr hk
  obtain ⟨vf, vc, rfl, hgo⟩ := kv_func hk
  obtain ⟨f3, hs3, x1, x2, x3⟩ := boxes3 hc hs 47 53 82 (.pointer (some ⟨G.wb, 0, none⟩)) (.pointer (some ⟨n.ad, 0, none⟩)) (.func (Fn.func vf) #[] vc)
  have HF3 := Lib.hid f3
  have HC3 := Lib.hid (hc.fr f3)
  have HR3 := Lib.hid (hr.fr f3)
  have HK3 := Lib.hid (Wk.kv_fr f3 hk)
  have HON := Lib.hid (once_any G _ s (n.ad, pl, false) (hc.fr f3) hs3 ⟨n, hn, rfl⟩ hb)
  have X1 := Lib.hid x1
  have X2 := Lib.hid x2
  have X3 := Lib.hid x3
  have c1 := x1.2
  have c2 := x2.2
  have c3 := x3.2
  have HH := Lib.hid h
  have HWF := Lib.hid hwf
  clear f3 hs3 x1 x2 x3 hc hs hr hk h hwf
  generalize hw3 : ((w.alloc (.cells #[.pointer (some ⟨G.wb, 0, none⟩)] 47)).alloc (.cells #[.pointer (some ⟨n.ad, 0, none⟩)] 53)).alloc (.cells #[.func (Fn.func vf) #[] vc] 82) = w3 at *
  unfold kv at HON
  generalize hq1 : w.heap.size = q1 at *
  go_enter Try.func25, Try.ntmps25
  go_wp2_with fail
  refine HON.out.mono ?_
  rintro e w4 ⟨rfl, hf4, hs4⟩
  have HF4 := Lib.hid hf4
  have HS4 := Lib.hid hs4
  have Y1 := Lib.hid (X1.out.fr hf4)
  have Y2 := Lib.hid (X2.out.fr hf4)
  have Y3 := Lib.hid (X3.out.fr hf4)
  have HC4 := Lib.hid (HC3.out.fr hf4)
  have HR4 := Lib.hid (HR3.out.fr hf4)
  have HK4 := Lib.hid (Wk.kv_fr hf4 HK3.out)
  have m1 := Y1.out.2
  have m2 := Y2.out.2
  have m3 := Y3.out.2
  obtain ⟨ra, rc, sa, sc, hnd⟩ := HC4.out.nodes n hn
  have HND := Lib.hid hnd
  have n0 : w4.cell? ⟨n.ad, 0, none⟩ = some (.int .i64 n.kind) := hnd.blk.cell 0
  clear hf4 hs4 hnd c1 c2 c3 HON hw3
  rw [hkind] at n0
  have hmd : decide (s.met (n.ad, pl, false) = 0) = true := by simpa using hm
  rw [hmd]
  have hh := HH.out
  unfold Mean.first at hh
  simp only [hkind] at hh
  clear hmd HH
  simp only [if_true] at hh
  obtain ⟨s1, h1, rfl⟩ := hh
  obtain ⟨f9, c9, he9, -, hcall⟩ := h1 hpl hlen w4 _ N c HC4.out HS4.out HR4.out HK4.out
  cases he9
  have HCALL := Lib.hid hcall
  clear hcall h1
  simp only []
  go_wp2_with fail
  refine HCALL.out.mono ?_
  rintro e w5 ⟨rfl, hx⟩
  have HX := Lib.hid hx
  clear hx
  simp only []
  go_wp2_with fail
  go_end0
  exact ⟨rfl, HF3.out.trans (HF4.out.trans HX.out.1), HX.out.2⟩
end Go.Proofs.Yteimpcjafgllpaa
namespace Go.Proofs.Yteimpcjafgllpaa
open Go.RowKit
set_option maxRecDepth 100000 in
set_option maxHeartbeats 4000000 in
theorem beg_4 (G : Wk) (hwf : G.wf) (s s' : Mean.St) (n : Mean.Un) (pl : Nat) (nt : List Int) (K : Mean.Kt) (hkind : n.kind = 4) (hm : s.met (n.ad, pl, false) = 0) (h : G.chain (s.mark (n.ad, pl, false)) (Mean.first G.t n pl nt K) s') (hb : s.calls ≤ 4611686018427387904) : G.does s (.beg n pl nt K) s' := by
  intro hn hpl hlen w v N c hc hs hr hk
  obtain ⟨vf, vc, rfl, hgo⟩ := kv_func hk
  obtain ⟨f3, hs3, x1, x2, x3⟩ := boxes3 hc hs 47 53 82 (.pointer (some ⟨G.wb, 0, none⟩)) (.pointer (some ⟨n.ad, 0, none⟩)) (.func (Fn.func vf) #[] vc)
  have HF3 := Lib.hid f3
  have HC3 := Lib.hid (hc.fr f3)
  have HR3 := Lib.hid (hr.fr f3)
  have HK3 := Lib.hid (Wk.kv_fr f3 hk)
  have HON := Lib.hid (once_any G _ s (n.ad, pl, false) (hc.fr f3) hs3 ⟨n, hn, rfl⟩ hb)
  have X1 := Lib.hid x1
  have X2 := Lib.hid x2
  have X3 := Lib.hid x3
  have c1 := x1.2
  have c2 := x2.2
  have c3 := x3.2
  have HH := Lib.hid h
  have HWF := Lib.hid hwf
  clear f3 hs3 x1 x2 x3 hc hs hr hk h hwf
  generalize hw3 : ((w.alloc (.cells #[.pointer (some ⟨G.wb, 0, none⟩)] 47)).alloc (.cells #[.pointer (some ⟨n.ad, 0, none⟩)] 53)).alloc (.cells #[.func (Fn.func vf) #[] vc] 82) = w3 at *
  unfold kv at HON
  generalize hq1 : w.heap.size = q1 at *
  go_enter Try.func25, Try.ntmps25
  go_wp2_with fail
  refine HON.out.mono ?_
  rintro e w4 ⟨rfl, hf4, hs4⟩
  have HF4 := Lib.hid hf4
  have HS4 := Lib.hid hs4
  have Y1 := Lib.hid (X1.out.fr hf4)
  have Y2 := Lib.hid (X2.out.fr hf4)
  have Y3 := Lib.hid (X3.out.fr hf4)
  have HC4 := Lib.hid (HC3.out.fr hf4)
  have HR4 := Lib.hid (HR3.out.fr hf4)
  have HK4 := Lib.hid (Wk.kv_fr hf4 HK3.out)
  have m1 := Y1.out.2
  have m2 := Y2.out.2
  have m3 := Y3.out.2
  obtain ⟨ra, rc, sa, sc, hnd⟩ := HC4.out.nodes n hn
  have HND := Lib.hid hnd
  have n0 : w4.cell? ⟨n.ad, 0, none⟩ = some (.int .i64 n.kind) := hnd.blk.cell 0
  clear hf4 hs4 hnd c1 c2 c3 HON hw3
  rw [hkind] at n0
  have hmd : decide (s.met (n.ad, pl, false) = 0) = true := by simpa using hm
  rw [hmd]
  have hh := HH.out
  unfold Mean.first at hh
  simp only [hkind] at hh
  clear hmd HH
  simp only [reduceIte, Int.reduceNeg, Int.reduceEq] at hh
  obtain ⟨s1, h1, rfl⟩ := hh
  have fd : G.fr w4 w4.drew := HC4.out.below (bdrewN (Below.refl _ _) 1)
  have HFD := Lib.hid fd
  have HCD := Lib.hid (HC4.out.fr fd)
  have HSD := Lib.hid (HS4.out.kept_below HC4.out (bdrewN (Below.refl _ _) 1))
  have HRD := Lib.hid (HR4.out.fr fd)
  have HKD := Lib.hid (Wk.kv_fr fd HK4.out)
  have Z1 := Lib.hid (Y1.out.fr fd)
  have Z2 := Lib.hid (Y2.out.fr fd)
  have Z3 := Lib.hid (Y3.out.fr fd)
  have HNDD := Lib.hid (HND.out.fr fd)
  clear fd
  have HRW := Lib.hid (row_any G _ s' n.subs K pl nt h1 (HWF.out.closed n hn) hpl hlen w4.drew _ N sa c sc HCD.out HSD.out HRD.out HKD.out HNDD.out.subs)
  have kA : w4.drew.cell? ⟨q1, 0, none⟩ = some (.pointer (some ⟨G.wb, 0, none⟩)) ∧ w4.drew.cell? ⟨q1 + 1, 0, none⟩ = some (.pointer (some ⟨n.ad, 0, none⟩)) ∧ w4.drew.cell? ⟨n.ad, 5, none⟩ = some (.slice sa n.subs.length sc) ∧ w4.drew.cell? ⟨q1 + 1 + 1, 0, none⟩ = some (.func (Fn.func vf) #[] vc) := And.intro (Z1.out.2) (And.intro (Z2.out.2) (And.intro (HNDD.out.blk.cell 5) (Z3.out.2)))
  clear h1
  simp only []
  go_wp2_with fail
  go_region_held_law (fun u => u.cell? ⟨q1, 0, none⟩ = some (.pointer (some ⟨G.wb, 0, none⟩)) ∧ u.cell? ⟨q1 + 1, 0, none⟩ = some (.pointer (some ⟨n.ad, 0, none⟩)) ∧ u.cell? ⟨n.ad, 5, none⟩ = some (.slice sa n.subs.length sc) ∧ u.cell? ⟨q1 + 1 + 1, 0, none⟩ = some (.func (Fn.func vf) #[] vc)) (first | with_reducible exact kA | with_reducible exact kB)
    (first | (go_at_call 50; (with_reducible refine HRW.out.mono ?_); rintro e w5 ⟨rfl, hx⟩; have HX := Lib.hid hx; have kB := And.intro ((Z1.out.1.cell hx.1 (0)).trans kA.1) (And.intro ((Z2.out.1.cell hx.1 (0)).trans kA.2.1) (And.intro ((HNDD.out.still.cell hx.1 (5)).trans kA.2.2.1) ((Z3.out.1.cell hx.1 (0)).trans kA.2.2.2))); clear hx; simp only []))
  go_wp2_with fail
  go_end0
  exact ⟨rfl, HF3.out.trans (HF4.out.trans (HFD.out.trans HX.out.1)), HX.out.2⟩
end Go.Proofs.Yteimpcjafgllpaa
namespace Go.Proofs.Yteimpcjafgllpaa
open Go.RowKit
set_option maxRecDepth 100000 in
set_option maxHeartbeats 4000000 in
theorem beg_5 (G : Wk) (hwf : G.wf) (s s' : Mean.St) (n : Mean.Un) (pl : Nat) (nt : List Int) (K : Mean.Kt) (hkind : n.kind = 5) (hm : s.met (n.ad, pl, false) = 0) (h : G.chain (s.mark (n.ad, pl, false)) (Mean.first G.t n pl nt K) s') (hb : s.calls ≤ 4611686018427387904) : G.does s (.beg n pl nt K) s' := by
  intro hn hpl hlen w v N c hc hs hr hk
  obtain ⟨vf, vc, rfl, hgo⟩ := kv_func hk
  obtain ⟨f3, hs3, x1, x2, x3⟩ := boxes3 hc hs 47 53 82 (.pointer (some ⟨G.wb, 0, none⟩)) (.pointer (some ⟨n.ad, 0, none⟩)) (.func (Fn.func vf) #[] vc)
  have HF3 := Lib.hid f3
  have HC3 := Lib.hid (hc.fr f3)
  have HR3 := Lib.hid (hr.fr f3)
  have HK3 := Lib.hid (Wk.kv_fr f3 hk)
  have HON := Lib.hid (once_any G _ s (n.ad, pl, false) (hc.fr f3) hs3 ⟨n, hn, rfl⟩ hb)
  have X1 := Lib.hid x1
  have X2 := Lib.hid x2
  have X3 := Lib.hid x3
  have c1 := x1.2
  have c2 := x2.2
  have c3 := x3.2
  have HH := Lib.hid h
  have HWF := Lib.hid hwf
  clear f3 hs3 x1 x2 x3 hc hs hr hk h hwf
  generalize hw3 : ((w.alloc (.cells #[.pointer (some ⟨G.wb, 0, none⟩)] 47)).alloc (.cells #[.pointer (some ⟨n.ad, 0, none⟩)] 53)).alloc (.cells #[.func (Fn.func vf) #[] vc] 82) = w3 at *
  unfold kv at HON
  generalize hq1 : w.heap.size = q1 at *
  go_enter Try.func25, Try.ntmps25
  go_wp2_with fail
  refine HON.out.mono ?_
  rintro e w4 ⟨rfl, hf4, hs4⟩
  have HF4 := Lib.hid hf4
  have HS4 := Lib.hid hs4
  have Y1 := Lib.hid (X1.out.fr hf4)
  have Y2 := Lib.hid (X2.out.fr hf4)
  have Y3 := Lib.hid (X3.out.fr hf4)
  have HC4 := Lib.hid (HC3.out.fr hf4)
  have HR4 := Lib.hid (HR3.out.fr hf4)
  have HK4 := Lib.hid (Wk.kv_fr hf4 HK3.out)
  have m1 := Y1.out.2
  have m2 := Y2.out.2
  have m3 := Y3.out.2
  obtain ⟨ra, rc, sa, sc, hnd⟩ := HC4.out.nodes n hn
  have HND := Lib.hid hnd
  have n0 : w4.cell? ⟨n.ad, 0, none⟩ = some (.int .i64 n.kind) := hnd.blk.cell 0
  clear hf4 hs4 hnd c1 c2 c3 HON hw3
  rw [hkind] at n0
  have hmd : decide (s.met (n.ad, pl, false) = 0) = true := by simpa using hm
  rw [hmd]
  have hh := HH.out
  unfold Mean.first at hh
  simp only [hkind] at hh
  clear hmd HH
  simp only [reduceIte, Int.reduceNeg, Int.reduceEq] at hh
  have n5 : w4.cell? ⟨n.ad, 5, none⟩ = some (.slice sa n.subs.length sc) := HND.out.blk.cell 5
  have HHH := Lib.hid hh
  have hfew := HWF.out.few n hn
  clear hh
  simp only []
  go_wp2_with fail
  go_loopw [91] (fun iv W => ∃ i : Nat, i ≤ n.subs.length ∧ iv = .int .i64 (i : Int) ∧ ∃ si, G.fr w4 W ∧ G.st W si ∧ G.chain si ((n.subs.drop i).map fun x => Mean.Task.beg x pl nt K) s') (fun iv _ => n.subs.length - (intOf iv).toNat)
  case atStart => exact ⟨0, Nat.zero_le _, rfl, _, HC4.out.refl, HS4.out, by rw [List.drop_zero]; exact HHH.out⟩
  case round =>
    obtain ⟨i, hi, rfl, si, hfi, hsi, hch⟩ := hrel
    by_cases hlt : i < n.subs.length
    · have hlti : (i : Int) < (n.subs.length : Int) := by omega
      rw [List.drop_eq_getElem_cons hlt, List.map_cons] at hch
      obtain ⟨s1, h1, h2⟩ := hch
      obtain ⟨ab, ao, hsa, hab, hac⟩ := rd_pos HND.out.subs (by omega)
      subst hsa
      have hsu : n.subs[i] ∈ G.U := HWF.out.closed n hn _ (List.getElem_mem hlt)
      have r0 : wr.cell? ⟨ab, ao + i, none⟩ = some (.pointer (some ⟨(n.subs[i]).ad, 0, none⟩)) := (hab.cell hfi (ao + i)).trans (hac i _ (by unfold ptrs; rw [List.getElem?_map, List.getElem?_eq_getElem hlt]; rfl))
      have r1 := (Y1.out.fr hfi).2
      have r3 := (Y3.out.fr hfi).2
      have HBG := Lib.hid (h1 hsu hpl hlen wr _ N c (HC4.out.fr hfi) hsi (HR4.out.fr hfi) (Wk.kv_fr hfi HK4.out))
      have HFI := Lib.hid hfi
      have HH2 := Lib.hid h2
      have hwi : IntKind.i64.wrap ((i : Int) + 1) = ((i + 1 : Nat) : Int) := by rw [IntKind.wrap_i64]; omega
      generalize (n.subs[i]).ad = sad at *
      clear h1 h2 hfi hsi hab hac m1 m2 m3 n0 n5
      go_wp2_with fail
      refine HBG.out.mono ?_
      rintro e w5 ⟨rfl, hx⟩
      have HX := Lib.hid hx
      clear hx
      simp only []
      go_wp2_with fail
      go_roundw
      case rel => exact ⟨i + 1, hlt, by go_num, _, HFI.out.trans HX.out.1, HX.out.2, HH2.out⟩
      case measure => simp [intOf]; omega
    · have hlti : ¬ ((i : Int) < (n.subs.length : Int)) := by omega
      rw [List.drop_of_length_le (by omega)] at hch
      obtain rfl : s' = si := hch
      have HFI := Lib.hid hfi
      have HSI := Lib.hid hsi
      clear hfi hsi m1 m2 m3 n0 n5
      go_wp2_with fail
      go_end0
      exact ⟨rfl, HF3.out.trans (HF4.out.trans HFI.out), HSI.out⟩
end Go.Proofs.Yteimpcjafgllpaa
