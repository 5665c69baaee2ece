/- heronref09.walk: what stands in memory. -/
import Derived.Deep.AppendLies
import Derived.Deep.RegionHeldLaw
import Derived.Test.YtfgelkfnbohmmaaP03
import Derived.Test.YtfgelkfnbohmmaaP04
import Derived.Test.YtfgelkfnbohmmaaP15
import Derived.Test.YtfgelkfnbohmmaaP41
import Derived.Test.YtfgelkfnbohmmaaP42
import Derived.Test.YtfgelkfnbohmmaaP43
import Derived.Test.YtfgelkfnbohmmaaP44
namespace Go.Proofs.Ytfgelkfnbohmmaa
open Go.RowKit Go.Proofs.Ytfgelkfnbohmmaa.Mach
def turnVals : Job → List Value
  | .pair i k => [.int .i64 (i : Int), .int .i64 (k : Int), .int .i64 0, .int .i64 0]
  | .back c old => [.int .i64 0, .int .i64 0, .int .i64 ((c : Int) + 1), .int .i64 old]
theorem turnVals_length (j : Job) : (turnVals j).length = 4 := by cases j <;> rfl
/-- The row of what is still to be done: the top stands last. -/
def turnRow : List Job → List Value
  | [] => []
  | j :: l => turnRow l ++ turnVals j
theorem turnRow_length (l : List Job) : (turnRow l).length = l.length * 4 := by
  induction l with
  | nil => rfl
  | cons j l ih => rw [turnRow, List.length_append, ih, turnVals_length, List.length_cons]; omega
/-- The numbers of a run that stay. -/
structure Nx where
  w0 : World
  A : Option Addr
  n : Nat
  c : Nat
  start : Int
  cl : Nat
  At : Option Addr
  nt : Nat
  ct : Nat
  M : Nat
  C : Nat
  hM : M = w0.heap.size + 1
  hC : C = w0.heap.size + 2
/-- The program's box, the map, the captures, what is still to be done. -/
structure Nn (x : Nx) (LV : Value) (s : MS) (w : World) : Prop where
  below : Below x.w0.heap.size x.w0 w
  box : Blk w x.w0.heap.size 30 [.slice x.A x.n x.c, .int .i64 x.start, .int .i64 (x.cl : Int)]
  met : Blk w x.M 4 (s.met.map Value.bool)
  capt : Blk w x.C 3 (s.caps.map (Value.int .i64))
  own : w.ownsRow (x.C + 1) 109 4 LV s.todo.length (turnRow s.todo)
section
variable {x : Nx} {LV LV' : Value} {s : MS} {w w' : World}
theorem Nn.drewN (h : Nn x LV s w) (k : Nat) : Nn x LV s (w.drewN k) := ⟨bdrewN h.below k, h.box.drewN k, h.met.drewN k, h.capt.drewN k, own_drewN h.own k⟩
theorem Nn.later (h : Nn x LV s w) (hb : Below w.heap.size w w') : Nn x LV s w' :=
  ⟨h.below.trans (hb.mono h.below.size), h.box.below hb h.box.lt, h.met.below hb h.met.lt, h.capt.below hb h.capt.lt, own_below h.own hb⟩
theorem Nn.alloc (h : Nn x LV s w) (o : Obj) : Nn x LV s (w.alloc o) := h.later ((Below.refl _ _).alloc (Nat.le_refl _) _)
theorem Nn.far (h : Nn x LV s w) : ∀ b, LV.ownBlock = some b → x.C + 1 ≤ b := fun b hb => (h.own.lt b hb).1
theorem Nx.lo (x : Nx) : x.M = x.w0.heap.size + 1 ∧ x.C = x.w0.heap.size + 2 := ⟨x.hM, x.hC⟩
theorem Nn.marked (h : Nn x LV s w) (q : Nat) : Nn x LV { s with met := s.met.set q true } (w.setCell ⟨x.M, q, none⟩ (.bool true)) := by
  refine ⟨Below.kept h.below (Kept.setCell _ _) (by intro g hg; rw [List.mem_singleton] at hg; rw [hg]; have := x.lo; simp only []; omega) h.below.size, h.box.far (p := ⟨x.M, q, none⟩) (by have := x.lo; simp only []; omega) _, ?_, h.capt.far (p := ⟨x.M, q, none⟩) (by have := x.lo; simp only []; omega) _, own_kept h.own (Kept.setCell _ _) (fun b hb hm => by rw [List.mem_singleton] at hm; have := h.far b hb; have := x.lo; simp only [] at hm; omega)⟩
  have := h.met.set_ q (.bool true)
  rw [← List.map_set] at this
  exact this
theorem Nn.captured (h : Nn x LV s w) (q : Nat) (u : Int) : Nn x LV { s with caps := s.caps.set q u } (w.setCell ⟨x.C, q, none⟩ (.int .i64 u)) := by
  refine ⟨Below.kept h.below (Kept.setCell _ _) (by intro g hg; rw [List.mem_singleton] at hg; rw [hg]; have := x.lo; simp only []; omega) h.below.size, h.box.far (p := ⟨x.C, q, none⟩) (by have := x.lo; simp only []; omega) _, h.met.far (p := ⟨x.C, q, none⟩) (by have := x.lo; simp only []; omega) _, ?_, own_kept h.own (Kept.setCell _ _) (fun b hb hm => by rw [List.mem_singleton] at hm; have := h.far b hb; have := x.lo; simp only [] at hm; omega)⟩
  have := h.capt.set_ q (.int .i64 u)
  rw [← List.map_set] at this
  exact this
/-- Things are appended. -/
theorem Nn.pushed (h : Nn x LV s w) (hg : w.grownBy w' LV.ownBlock) {l : List Job} (ho : w'.ownsRow (x.C + 1) 109 4 LV' l.length (turnRow l)) : Nn x LV' { s with todo := l } w' := by
  have k : Kept w w' LV.ownBlock.toList := Kept.of_grown' hg
  have n3 : ∀ g, g < x.C + 1 → g ∉ LV.ownBlock.toList := fun g hl hm => by have := h.far g (by simpa using hm); have := x.lo; omega
  exact ⟨Below.kept h.below k (by intro g hg; have := h.far g (by simpa using hg); have := x.lo; omega) h.below.size, h.box.kept k (n3 _ (by have := x.lo; omega)), h.met.kept k (n3 _ (by have := x.lo; omega)), h.capt.kept k (n3 _ (by have := x.lo; omega)), ho⟩
/-- The top is taken off: the row is cut. -/
theorem Nn.cut (h : Nn x LV s w) {l : List Job} (ho : w.ownsRow (x.C + 1) 109 4 LV' l.length (turnRow l)) : Nn x LV' { s with todo := l } w :=
  ⟨h.below, h.box, h.met, h.capt, ho⟩
/-- The top of what is to be done, in memory. -/
theorem Nn.top {j : Job} {r : List Job} (h : Nn x LV s w) (ht : s.todo = j :: r) :
    ∃ g c, LV = .slice (some ⟨g, 0, none⟩) (r.length + 1) c ∧ r.length + 1 ≤ c ∧ c ≤ 9223372036854775807 ∧ g < w.heap.size ∧ (∀ q u, (turnVals j)[q]? = some u → w.cell? ⟨g, r.length * 4 + q, none⟩ = some u) ∧
      w.ownsRow (x.C + 1) 109 4 (.slice (some ⟨g, 0, none⟩) r.length c) r.length (turnRow r) := by
  have ho := h.own
  rw [ht, List.length_cons] at ho
  obtain ⟨g, c, cur, hv, hbg, hh, hnc, hcm, hcs, htk⟩ : ∃ g c cur, LV = .slice (some ⟨g, 0, none⟩) (r.length + 1) c ∧ x.C + 1 ≤ g ∧ w.heap[g]? = some (.cells cur 109 (0, 0)) ∧ r.length + 1 ≤ c ∧ c ≤ 9223372036854775807 ∧ cur.size = c * 4 ∧ cur.toList.take ((r.length + 1) * 4) = turnRow (j :: r) := by
    rcases ho.2 with ⟨_, h0⟩ | ⟨g, c, cur, hv, h1, h2, h3, h4, h5, h6⟩
    · simp at h0
    · exact ⟨g, c, cur, hv, h1, h2, h3, h4, h5, h6⟩
  subst hv
  have hG : Blk w g 109 cur.toList := hh
  refine ⟨g, c, rfl, hnc, hcm, hG.lt, ?_, own_shrink (ys := turnVals j) ho (turnRow_length r) (Nat.le_succ _) (by simp)⟩
  intro q u hq
  rw [hG.cell]
  have hq5 : q < 4 := by
    have := (List.getElem?_eq_some_iff.1 hq).1
    rw [turnVals_length] at this; exact this
  have e1 : (cur.toList.take ((r.length + 1) * 4))[r.length * 4 + q]? = cur.toList[r.length * 4 + q]? := List.getElem?_take_of_lt (by omega)
  rw [← e1, htk, turnRow, List.getElem?_append_right (by rw [turnRow_length]; omega), turnRow_length, Nat.add_sub_cancel_left]
  exact hq
end
theorem new_at9 (w : World) (t : TypeId) (cs : List Value) : ∀ j u, cs[j]? = some u → (w.alloc (.cells cs.toArray t)).cell? ((⟨w.heap.size, 0, none⟩ : Addr).add j) = some u := by
  intro j u hj
  rw [add_lit, Nat.zero_add]
  exact ((Blk.new w t cs).cell j).trans hj
theorem Nn.same {x : Nx} {LV : Value} {s s' : MS} {w : World} (h : Nn x LV s w) (h1 : s'.met = s.met) (h2 : s'.caps = s.caps) (h3 : s'.todo = s.todo) : Nn x LV s' w :=
  ⟨h.below, h.box, by rw [h1]; exact h.met, by rw [h2]; exact h.capt, by rw [h3]; exact h.own⟩
theorem info_turn : (Try.prog.info? 109).map (fun i => (i.zero, i.size, i.bytes)) = some (some (.agg #[.int .i64 0, .int .i64 0, .int .i64 0, .int .i64 0]), 4, 32) := by kernel_rfl
/-- What holds of what walk is asked. -/
structure Nk (x : Nx) (p : Prg) (t : List Int) (L : List InV) : Prop where
  rp : ReadsP x.w0 x.w0.heap.size x.A x.n x.c L
  rt : Reads x.w0 x.w0.heap.size 1 x.At x.nt x.ct (t.map (Value.int .i64))
  pi : p.insts = insL L
  st : p.start = x.start
  cp : p.caps = (x.cl : Int)
  chk : checkB p = true
  ntl : x.nt ≤ 1000
theorem Nk.tl {x : Nx} {p : Prg} {t : List Int} {L : List InV} (h : Nk x p t L) : t.length = x.nt := by have := h.rt.len; simpa using this
theorem Nk.nl {x : Nx} {p : Prg} {t : List Int} {L : List InV} (h : Nk x p t L) : p.insts.length = x.n := by rw [h.pi, insL, List.length_map]; exact h.rp.len
end Go.Proofs.Ytfgelkfnbohmmaa
namespace Go.Proofs.Ytfgelkfnbohmmaa
open Go.RowKit Go.Proofs.Ytfgelkfnbohmmaa.Mach Go.Proofs.Ytfgelkfnbohmmaa.Tr
def oneT (r : Nat) : Ta := .mk 2 [(97, 97)] (some ⟨r, 0, none⟩) 1 0 [] none 0 0 0 false 0 ⟨#[]⟩
def oneL (r : Nat) : List InV := [⟨⟨3, 1, 0, 0, []⟩, none, 0, 0⟩, ⟨⟨1, 2, 0, 0, [(97, 97)]⟩, some ⟨r, 0, none⟩, 1, 1⟩, ⟨⟨3, 3, 0, 1, []⟩, none, 0, 0⟩, ⟨⟨5, 0, 0, 0, []⟩, none, 0, 0⟩]
def oneI : List Ins := [⟨3, 1, 0, 0, []⟩, ⟨1, 2, 0, 0, [(97, 97)]⟩, ⟨3, 3, 0, 1, []⟩, ⟨5, 0, 0, 0, []⟩]
theorem one_ins (r : Nat) : insL (oneL r) = oneI := rfl
def oneTr : Tr.Tr := .mk 2 [(97, 97)] 0 [] 0 0 false 0 ⟨#[]⟩
theorem one_tr (r : Nat) : (oneT r).tr = oneTr := by rw [oneT, Ta.tr, trs]; rfl
theorem one_cmp : cmpE oneTr = 0 := by decide +kernel
theorem one_prog : progL (simpleS oneTr) = oneI := by kernel_rfl
theorem one_caps : 2 + 2 * greatest oneTr = 2 := by decide +kernel
theorem one_chk : chkE ⟨oneI, 0, 2⟩ = 0 := by decide +kernel
theorem zero_chk : chkE ⟨[], 0, 0⟩ = 90 := by decide +kernel
theorem RdA.readsB {w : World} {size n c : Nat} {A : Option Addr} {xs : List Value} {B : Nat} {L : List Nat} (h : RdA w (Fr B L w) size A n c xs) : Reads w w.heap.size size A n c xs := h.reads fun b hb => hb.2.1
theorem readsP_of {w : World} {n c : Nat} {A : Option Addr} {L : List InV} {B : Nat} (h : RdA w (Fr B [] w) 5 A n c (insRow L)) (he : ∀ u ∈ L, RdA w (Fr B [] w) 2 u.A u.n u.c (flat u.I.rng)) : ReadsP w w.heap.size A n c L := ⟨h.readsB, fun u hu => ⟨(he u hu).readsB, (he u hu).2.2.2.1⟩⟩
set_option maxRecDepth 100000 in
set_option maxHeartbeats 2000000 in
theorem awake9_any (w : World) :
    Calls Try.prog 8 #[] w fun e w' => e = .returned (.bool true) ∧ Below w.heap.size w w' := by
  have hb1 : Below w.heap.size w (w.alloc (.cells #[.int .i64 97, .int .i64 97] 52)) := (Below.refl _ _).alloc (Nat.le_refl _) _
  have HR1 := Lib.hid (Blk.new w 52 [.int .i64 97, .int .i64 97])
  have hrt : RT (w.alloc (.cells #[.int .i64 97, .int .i64 97] 52)) (· < (w.alloc (.cells #[.int .i64 97, .int .i64 97] 52)).heap.size) (oneT w.heap.size) := by
    refine RT.of ⟨RdA.of_reads (HR1.out.reads (size := 2) (n := 1) (c := 1) (by omega) (by omega) (by simp)) (fun h => by cases h), by simp, by simp, by decide⟩ (RdA.none_) (by simp)
  have HC := Lib.hid (compile_any (oneT w.heap.size) (· < (w.alloc (.cells #[.int .i64 97, .int .i64 97] 52)).heap.size) (w.alloc (.cells #[.int .i64 97, .int .i64 97] 52)) hrt (fun b hb => hb))
  rw [one_tr] at HC
  have HB1 := Lib.hid hb1
  clear hb1 hrt
  simp only [oneT, Ta.val, Ta.vals, List.length_cons, List.length_nil, Nat.zero_add] at HC
  go_enter Try.func8, Try.ntmps8
  go_wp2_with fail
  refine HC.out.mono ?_
  rintro e w2 ⟨⟨A, n, c, L, caps, rfl, hln, hra, hel, hok⟩, hb2⟩
  obtain ⟨hI, hcp, -⟩ := hok one_cmp
  rw [one_caps] at hcp
  rw [one_prog] at hI
  rw [one_cmp]
  subst hcp
  have hn4 : n = 4 := by
    have := congrArg List.length hI
    rw [insL, List.length_map] at this
    rw [← hln, this]; rfl
  subst hn4
  have HP := Lib.hid (readsP_of hra hel)
  have HI := Lib.hid hI
  have HR2 := Lib.hid (HR1.out.below hb2 HR1.out.lt)
  have HB2 := Lib.hid (HB1.out.trans (hb2.mono HB1.out.size))
  clear hln hra hel hok hI hb2
  have hs1 : (w2.alloc (.cells #[.slice A 4 c, .int .i64 0, .int .i64 2] 30)).heap.size = w2.heap.size + 1 := by simp
  have hbw : Below w2.heap.size w2 (((w2.alloc (.cells #[.slice A 4 c, .int .i64 0, .int .i64 2] 30)).alloc (.cells #[.int .i64 3, .int .i64 1, .int .i64 0, .int .i64 0, .slice none 0 0, .int .i64 1, .int .i64 2, .int .i64 0, .int .i64 0, .slice (some ⟨w.heap.size, 0, none⟩) 1 1, .int .i64 3, .int .i64 3, .int .i64 0, .int .i64 1, .slice none 0 0, .int .i64 5, .int .i64 0, .int .i64 0, .int .i64 0, .slice none 0 0] 54)).alloc (.cells #[.slice (some ⟨w2.heap.size + 1, 0, none⟩) 4 4, .int .i64 0, .int .i64 2] 30)) := (((Below.refl _ _).alloc (Nat.le_refl _) _).alloc (by simp) _).alloc (by simp <;> omega) _
  have hIb : Blk (((w2.alloc (.cells #[.slice A 4 c, .int .i64 0, .int .i64 2] 30)).alloc (.cells #[.int .i64 3, .int .i64 1, .int .i64 0, .int .i64 0, .slice none 0 0, .int .i64 1, .int .i64 2, .int .i64 0, .int .i64 0, .slice (some ⟨w.heap.size, 0, none⟩) 1 1, .int .i64 3, .int .i64 3, .int .i64 0, .int .i64 1, .slice none 0 0, .int .i64 5, .int .i64 0, .int .i64 0, .int .i64 0, .slice none 0 0] 54)).alloc (.cells #[.slice (some ⟨w2.heap.size + 1, 0, none⟩) 4 4, .int .i64 0, .int .i64 2] 30)) (w2.heap.size + 1) 54 (insRow (oneL w.heap.size)) := by
    have := (Blk.new (w2.alloc (.cells #[.slice A 4 c, .int .i64 0, .int .i64 2] 30)) 54 (insRow (oneL w.heap.size))).alloc (.cells #[.slice (some ⟨w2.heap.size + 1, 0, none⟩) 4 4, .int .i64 0, .int .i64 2] 30)
    rw [hs1] at this
    exact this
  have hPb : Blk (((w2.alloc (.cells #[.slice A 4 c, .int .i64 0, .int .i64 2] 30)).alloc (.cells #[.int .i64 3, .int .i64 1, .int .i64 0, .int .i64 0, .slice none 0 0, .int .i64 1, .int .i64 2, .int .i64 0, .int .i64 0, .slice (some ⟨w.heap.size, 0, none⟩) 1 1, .int .i64 3, .int .i64 3, .int .i64 0, .int .i64 1, .slice none 0 0, .int .i64 5, .int .i64 0, .int .i64 0, .int .i64 0, .slice none 0 0] 54)).alloc (.cells #[.slice (some ⟨w2.heap.size + 1, 0, none⟩) 4 4, .int .i64 0, .int .i64 2] 30)) (w2.heap.size + 1 + 1) 30 [.slice (some ⟨w2.heap.size + 1, 0, none⟩) 4 4, .int .i64 0, .int .i64 2] := by
    have := Blk.new ((w2.alloc (.cells #[.slice A 4 c, .int .i64 0, .int .i64 2] 30)).alloc (.cells #[.int .i64 3, .int .i64 1, .int .i64 0, .int .i64 0, .slice none 0 0, .int .i64 1, .int .i64 2, .int .i64 0, .int .i64 0, .slice (some ⟨w.heap.size, 0, none⟩) 1 1, .int .i64 3, .int .i64 3, .int .i64 0, .int .i64 1, .slice none 0 0, .int .i64 5, .int .i64 0, .int .i64 0, .int .i64 0, .slice none 0 0] 54)) 30 [.slice (some ⟨w2.heap.size + 1, 0, none⟩) 4 4, .int .i64 0, .int .i64 2]
    rw [show ((w2.alloc (.cells #[.slice A 4 c, .int .i64 0, .int .i64 2] 30)).alloc (.cells #[.int .i64 3, .int .i64 1, .int .i64 0, .int .i64 0, .slice none 0 0, .int .i64 1, .int .i64 2, .int .i64 0, .int .i64 0, .slice (some ⟨w.heap.size, 0, none⟩) 1 1, .int .i64 3, .int .i64 3, .int .i64 0, .int .i64 1, .slice none 0 0, .int .i64 5, .int .i64 0, .int .i64 0, .int .i64 0, .slice none 0 0] 54)).heap.size = w2.heap.size + 1 + 1 from by simp] at this
    exact this
  have HRW := Lib.hid (HR2.out.below hbw HR2.out.lt)
  have HPW := Lib.hid (HP.out.below hbw)
  have HBW := Lib.hid (HB2.out.trans (hbw.mono HB2.out.size))
  have HPB := Lib.hid hPb
  have hri := hIb.reads (size := 5) (n := 4) (c := 4) (by omega) (by omega) (by simp [insRow_length, oneL])
  rw [List.take_of_length_le (by simp [insRow_length, oneL])] at hri
  have hrr := HRW.out.reads (size := 2) (n := 1) (c := 1) (by omega) (by omega) (by simp)
  have hwant : ReadsP (((w2.alloc (.cells #[.slice A 4 c, .int .i64 0, .int .i64 2] 30)).alloc (.cells #[.int .i64 3, .int .i64 1, .int .i64 0, .int .i64 0, .slice none 0 0, .int .i64 1, .int .i64 2, .int .i64 0, .int .i64 0, .slice (some ⟨w.heap.size, 0, none⟩) 1 1, .int .i64 3, .int .i64 3, .int .i64 0, .int .i64 1, .slice none 0 0, .int .i64 5, .int .i64 0, .int .i64 0, .int .i64 0, .slice none 0 0] 54)).alloc (.cells #[.slice (some ⟨w2.heap.size + 1, 0, none⟩) 4 4, .int .i64 0, .int .i64 2] 30)) (((w2.alloc (.cells #[.slice A 4 c, .int .i64 0, .int .i64 2] 30)).alloc (.cells #[.int .i64 3, .int .i64 1, .int .i64 0, .int .i64 0, .slice none 0 0, .int .i64 1, .int .i64 2, .int .i64 0, .int .i64 0, .slice (some ⟨w.heap.size, 0, none⟩) 1 1, .int .i64 3, .int .i64 3, .int .i64 0, .int .i64 1, .slice none 0 0, .int .i64 5, .int .i64 0, .int .i64 0, .int .i64 0, .slice none 0 0] 54)).alloc (.cells #[.slice (some ⟨w2.heap.size + 1, 0, none⟩) 4 4, .int .i64 0, .int .i64 2] 30)).heap.size (some ⟨w2.heap.size + 1, 0, none⟩) 4 4 (oneL w.heap.size) := by
    refine ⟨hri, fun v hv => ?_⟩
    simp only [oneL, List.mem_cons, List.not_mem_nil, or_false] at hv
    rcases hv with rfl | rfl | rfl | rfl
    · exact ⟨Reads.none_, fun _ => rfl⟩
    · exact ⟨hrr, fun h => by cases h⟩
    · exact ⟨Reads.none_, fun _ => rfl⟩
    · exact ⟨Reads.none_, fun _ => rfl⟩
  have HWT := Lib.hid hwant
  have hpw2 : ReadsP (((w2.alloc (.cells #[.slice A 4 c, .int .i64 0, .int .i64 2] 30)).alloc (.cells #[.int .i64 3, .int .i64 1, .int .i64 0, .int .i64 0, .slice none 0 0, .int .i64 1, .int .i64 2, .int .i64 0, .int .i64 0, .slice (some ⟨w.heap.size, 0, none⟩) 1 1, .int .i64 3, .int .i64 3, .int .i64 0, .int .i64 1, .slice none 0 0, .int .i64 5, .int .i64 0, .int .i64 0, .int .i64 0, .slice none 0 0] 54)).alloc (.cells #[.slice (some ⟨w2.heap.size + 1, 0, none⟩) 4 4, .int .i64 0, .int .i64 2] 30)) (((w2.alloc (.cells #[.slice A 4 c, .int .i64 0, .int .i64 2] 30)).alloc (.cells #[.int .i64 3, .int .i64 1, .int .i64 0, .int .i64 0, .slice none 0 0, .int .i64 1, .int .i64 2, .int .i64 0, .int .i64 0, .slice (some ⟨w.heap.size, 0, none⟩) 1 1, .int .i64 3, .int .i64 3, .int .i64 0, .int .i64 1, .slice none 0 0, .int .i64 5, .int .i64 0, .int .i64 0, .int .i64 0, .slice none 0 0] 54)).alloc (.cells #[.slice (some ⟨w2.heap.size + 1, 0, none⟩) 4 4, .int .i64 0, .int .i64 2] 30)).heap.size A 4 c L := HPW.out.more hbw.size
  have HSA := Lib.hid (sameP_any L (oneL w.heap.size) (by rw [HI.out, one_ins]) A (some ⟨w2.heap.size + 1, 0, none⟩) 4 c 4 0 2 (((w2.alloc (.cells #[.slice A 4 c, .int .i64 0, .int .i64 2] 30)).alloc (.cells #[.int .i64 3, .int .i64 1, .int .i64 0, .int .i64 0, .slice none 0 0, .int .i64 1, .int .i64 2, .int .i64 0, .int .i64 0, .slice (some ⟨w.heap.size, 0, none⟩) 1 1, .int .i64 3, .int .i64 3, .int .i64 0, .int .i64 1, .slice none 0 0, .int .i64 5, .int .i64 0, .int .i64 0, .int .i64 0, .slice none 0 0] 54)).alloc (.cells #[.slice (some ⟨w2.heap.size + 1, 0, none⟩) 4 4, .int .i64 0, .int .i64 2] 30)) hpw2 hwant)
  clear hs1 hbw hIb hPb hri hrr hwant hpw2
  simp only []
  go_wp2_with fail
  generalize (((w2.alloc (.cells #[.slice A 4 c, .int .i64 0, .int .i64 2] 30)).alloc (.cells #[.int .i64 3, .int .i64 1, .int .i64 0, .int .i64 0, .slice none 0 0, .int .i64 1, .int .i64 2, .int .i64 0, .int .i64 0, .slice (some ⟨w.heap.size, 0, none⟩) 1 1, .int .i64 3, .int .i64 3, .int .i64 0, .int .i64 1, .slice none 0 0, .int .i64 5, .int .i64 0, .int .i64 0, .int .i64 0, .slice none 0 0] 54)).alloc (.cells #[.slice (some ⟨w2.heap.size + 1, 0, none⟩) 4 4, .int .i64 0, .int .i64 2] 30)) = ww at *
  generalize hpb : w2.heap.size + 1 + 1 = pb at *
  refine HSA.out.mono ?_
  rintro e w3 ⟨rfl, hb3⟩
  have HB3 := Lib.hid (HBW.out.trans (hb3.mono HBW.out.size))
  have HPB3 := Lib.hid (HPB.out.below hb3 HPB.out.lt)
  have HW3 := Lib.hid ((HWT.out.below hb3).more hb3.size)
  have d0 : w3.cell? ⟨pb, 0, none⟩ = some (.slice (some ⟨w2.heap.size + 1, 0, none⟩) 4 4) := HPB3.out.cell 0
  have d1 : w3.cell? ⟨pb, 1, none⟩ = some (.int .i64 0) := HPB3.out.cell 1
  have d2 : w3.cell? ⟨pb, 2, none⟩ = some (.int .i64 2) := HPB3.out.cell 2
  have hck := check_any (some ⟨w2.heap.size + 1, 0, none⟩) 4 4 (oneL w.heap.size) 0 2 w3 HW3.out
  rw [one_ins, one_chk] at hck
  have HCK := Lib.hid hck
  clear hb3 hck HSA
  simp only []
  go_wp2_with fail
  refine HCK.out.mono ?_
  rintro e w4 ⟨rfl, hb4⟩
  have HB4 := Lib.hid (HB3.out.trans (hb4.mono HB3.out.size))
  have hcz := check_any none 0 0 [] 0 0 w4 ⟨Reads.none_, by simp⟩
  rw [show insL [] = [] from rfl, zero_chk] at hcz
  have HCZ := Lib.hid hcz
  clear hb4 hcz HCK d0 d1 d2
  simp only []
  go_wp2_with fail
  refine HCZ.out.mono ?_
  rintro e w5 ⟨rfl, hb5⟩
  have HB5 := Lib.hid (HB4.out.trans (hb5.mono HB4.out.size))
  clear hb5 HCZ
  simp only []
  go_wp2_with fail
  go_ret
  exact ⟨rfl, HB5.out⟩
end Go.Proofs.Ytfgelkfnbohmmaa
