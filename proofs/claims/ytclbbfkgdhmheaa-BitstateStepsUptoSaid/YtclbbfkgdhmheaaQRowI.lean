/- A row of instructions that grows behind a pointer: words. No program here but the cells of an instruction. -/
import Derived.Test.YtclbbfkgdhmheaaQTreeW
import Derived.Test.YtclbbfkgdhmheaaQMemB
import Derived.Test.YtclbbfkgdhmheaaQRowPut
import Derived.Deep.AppendLies
import Derived.Deep.RegionHeldLaw
namespace Go.Proofs.Ytclbbfkgdhmheaa
open Go.RowKit Go.Proofs.Ytclbbfkgdhmheaa.Mach
variable {X : List Nat}

/-- The row's slice stands in the cell of block rb; its own block and its ranges lie from rb on, apart. -/
structure RowI (X : List Nat) (rb : Nat) (ty : TypeId) (v : Value) (L : List InV) (w : World) : Prop where
  blk : Blk w rb ty [v]
  own : w.ownsRow rb 57 5 v L.length (insRow L)
  els : ∀ u ∈ L, RdA w (Fr rb ((rb :: v.ownBlock.toList) ++ X) w) 2 u.A u.n u.c (flat u.I.rng)
  sep : v.ownBlock ≠ some rb
  xs : ∀ x ∈ X, x < w.heap.size
/-- From the row v in w to the row v' in w'. -/
structure RKI (rb : Nat) (v : Value) (w : World) (v' : Value) (w' : World) : Prop where
  kept : Kept w w' (rb :: v.ownBlock.toList)
  ow : v'.ownBlock = v.ownBlock ∨ ∃ g, v'.ownBlock = some g ∧ w.heap.size ≤ g
/-- A block that the row does not touch. -/
structure NB (rb g : Nat) (ty : TypeId) (cs : List Value) (v : Value) (w : World) : Prop where
  blk : Blk w g ty cs
  ne : g ≠ rb
  sep : v.ownBlock ≠ some g
theorem RKI.of_below {rb : Nat} {v : Value} {w w' : World} (h : Below w.heap.size w w') : RKI rb v w v w' := ⟨Kept.of_below h, .inl rfl⟩
theorem RKI.trans {rb : Nat} {v v1 v2 : Value} {w w1 w2 : World} (h : RKI rb v w v1 w1) (g : RKI rb v1 w1 v2 w2) : RKI rb v w v2 w2 := by
  refine ⟨(h.kept.trans g.kept).more ?_, ?_⟩
  · intro x hx
    rcases List.mem_append.1 hx with hx | hx
    · exact .inl hx
    · rcases List.mem_cons.1 hx with rfl | hx
      · exact .inl (by simp)
      · rcases h.ow with e | ⟨y, e, hy⟩
        · rw [e] at hx; exact .inl (List.mem_cons_of_mem _ hx)
        · rw [e] at hx; simp at hx; subst hx; exact .inr hy
  · rcases g.ow with e | ⟨y, e, hy⟩
    · rcases h.ow with f | ⟨z, f, hz⟩
      · exact .inl (e.trans f)
      · exact .inr ⟨z, e.trans f, hz⟩
    · exact .inr ⟨y, e, Nat.le_trans h.kept.size hy⟩
theorem RKI.nb {rb g : Nat} {ty : TypeId} {cs : List Value} {v v1 : Value} {w w1 : World} (h : RKI rb v w v1 w1) (n : NB rb g ty cs v w) : NB rb g ty cs v1 w1 := by
  refine ⟨n.blk.kept h.kept fun hm => ?_, n.ne, fun e => ?_⟩
  · rcases List.mem_cons.1 hm with hm | hm
    · exact n.ne hm
    · exact n.sep (by simpa using hm)
  · rcases h.ow with f | ⟨y, f, hy⟩
    · exact n.sep (f.symm.trans e)
    · rw [f] at e
      have := n.blk.lt
      simp at e
      omega
theorem RowI.new {rb : Nat} {ty ty2 : TypeId} {v : Value} {L : List InV} {w : World} (h : RowI X rb ty v L w) (cs : List Value) : NB rb w.heap.size ty2 cs v (w.alloc (.cells cs.toArray ty2)) := by
  have := h.blk.lt
  refine ⟨Blk.new w ty2 cs, by omega, fun e => ?_⟩
  have := h.own.lt _ e
  omega
theorem RowI.low {rb : Nat} {ty : TypeId} {v v' : Value} {L : List InV} {w w' : World} (h : RowI X rb ty v L w) (k : RKI rb v w v' w') : Below rb w w' :=
  k.kept.below (fun x hx => by
    rcases List.mem_cons.1 hx with rfl | hx
    · exact Nat.le_refl _
    · have := h.own.lt x (by simpa using hx); omega) (Nat.le_of_lt h.blk.lt)
def zI : InV := ⟨⟨0, 0, 0, 0, []⟩, none, 0, 0⟩
theorem insV_one (I : Ins) (A : Option Addr) (n c : Nat) : ∀ u ∈ insVals I A n c, u.oneCell' = true := by
  intro u hu
  simp only [insVals, List.mem_cons, List.not_mem_nil, or_false] at hu
  rcases hu with rfl | rfl | rfl | rfl | rfl <;> rfl
theorem insRow_app (a b : List InV) : insRow (a ++ b) = insRow a ++ insRow b := by unfold insRow; rw [List.flatMap_append]
theorem insRow_one (v : InV) : insRow [v] = insVals v.I v.A v.n v.c := by unfold insRow; simp
theorem insRow_at (L : List InV) (v : InV) (q : Nat) (hq : q < 5) : (insRow (L ++ [v]))[L.length * 5 + q]? = (insVals v.I v.A v.n v.c)[q]? := insRow_get _ _ _ _ (by rw [List.getElem?_append_right (Nat.le_refl _), Nat.sub_self]; rfl) hq
/-- One cell of an instruction of a row is written. -/
theorem insRow_set {L : List InV} {i q : Nat} {v u : InV} {x : Value} (hv : L[i]? = some v) (hq : q < 5) (hx : (insVals v.I v.A v.n v.c).set q x = insVals u.I u.A u.n u.c) : (insRow L).set (i * 5 + q) x = insRow (L.set i u) := by
  induction L generalizing i with
  | nil => simp at hv
  | cons a L ih =>
    cases i with
    | zero =>
      simp only [List.getElem?_cons_zero, Option.some.injEq] at hv
      subst hv
      rw [List.set_cons_zero, Nat.zero_mul, Nat.zero_add]
      show (insVals a.I a.A a.n a.c ++ insRow L).set q x = insVals u.I u.A u.n u.c ++ insRow L
      rw [List.set_append_left _ _ (by simpa [insVals] using hq), hx]
    | succ i =>
      rw [List.set_cons_succ]
      show (insVals a.I a.A a.n a.c ++ insRow L).set ((i + 1) * 5 + q) x = insVals a.I a.A a.n a.c ++ insRow (L.set i u)
      rw [List.set_append_right _ _ (by simp [insVals]; omega), show (i + 1) * 5 + q - (insVals a.I a.A a.n a.c).length = i * 5 + q from by simp [insVals]; omega, ih (by simpa using hv)]
section
variable {w w' : World} {rb : Nat} {ty : TypeId} {v : Value} {L : List InV}
theorem RowI.below (h : RowI X rb ty v L w) (hb : Below w.heap.size w w') : RowI X rb ty v L w' :=
  ⟨h.blk.below hb h.blk.lt, own_below h.own hb, fun u hu => (h.els u hu).fr_below hb, h.sep, fun x hx => Nat.lt_of_lt_of_le (h.xs x hx) hb.size⟩
/-- One cell of an own row is written. -/
theorem own_set1 {base g c n i : Nat} {e : TypeId} {size : Nat} {xs : List Value} {x : Value} (h : w.ownsRow base e size (.slice (some ⟨g, 0, none⟩) n c) n xs) (hi : i < xs.length) : (w.setCell ⟨g, i, none⟩ x).ownsRow base e size (.slice (some ⟨g, 0, none⟩) n c) n (xs.set i x) := by
  rcases h.2 with ⟨h0, _⟩ | ⟨g', cap, cur, hv, hb, hh, hnc, hcm, hcs, ht⟩
  · cases h0
  · simp only [Value.slice.injEq, Option.some.injEq, Addr.mk.injEq, and_true] at hv
    obtain ⟨rfl, _, rfl⟩ := hv
    have hl := h.1
    have hb0 : Blk w g e (xs ++ cur.toList.drop (n * size)) := by
      unfold Blk
      rw [← ht, List.take_append_drop, Array.toArray_toList]
      exact hh
    have hb1 := hb0.set_ i x
    have hcl : cur.toList.length = c * size := (Array.length_toList (xs := cur)).trans hcs
    have hmul : n * size ≤ c * size := Nat.mul_le_mul_right _ hnc
    rw [List.set_append_left _ _ hi] at hb1
    have hlen : (xs.set i x ++ cur.toList.drop (n * size)).length = c * size := by
      rw [List.length_append, List.length_set, List.length_drop, hcl, hl]; omega
    have := hb1.own (base := base) (size := size) hb hnc (by unfold maxLen at hcm; omega) hlen
    rwa [List.take_append_of_le_length (by rw [List.length_set, hl]; omega), List.take_of_length_le (by rw [List.length_set, hl]; omega)] at this
/-- A cell of an instruction of the row is written. -/
theorem RowI.set_ {g c i q : Nat} {x : Value} {a u : InV} (h : RowI X rb ty (.slice (some ⟨g, 0, none⟩) L.length c) L w) (ha : L[i]? = some a) (hq : q < 5) (hx : (insVals a.I a.A a.n a.c).set q x = insVals u.I u.A u.n u.c)
    (hu : RdA w (Fr rb ([rb, g] ++ X) w) 2 u.A u.n u.c (flat u.I.rng)) :
    RowI X rb ty (.slice (some ⟨g, 0, none⟩) (L.set i u).length c) (L.set i u) (w.setCell ⟨g, i * 5 + q, none⟩ x) := by
  have hil : i < L.length := (List.getElem?_eq_some_iff.1 ha).1
  have hgr : g ≠ rb := fun e => h.sep (by rw [e]; rfl)
  have hk := Kept.setCell (w := w) ⟨g, i * 5 + q, none⟩ x
  have hM : ∀ b ∈ [g], b ∈ [rb, g] ++ X ∨ w.heap.size ≤ b ∨ b < rb := fun b hb => by simp at hb; subst hb; exact .inl (by simp)
  have hlt : i * 5 + q < (insRow L).length := by rw [insRow_length]; omega
  refine ⟨?_, ?_, ?_, h.sep, fun x hx => Nat.lt_of_lt_of_le (h.xs x hx) hk.size⟩
  · rw [List.length_set]; exact h.blk.kept hk (by simpa using hgr.symm)
  · rw [List.length_set, ← insRow_set ha hq hx]
    exact own_set1 h.own hlt
  · intro z hz
    have hz2 : z ∈ L ∨ z = u := List.mem_or_eq_of_mem_set hz
    rcases hz2 with hz2 | rfl
    · exact (h.els z hz2).fr_kept hk hM (fun b hb => .inl (by simpa [Value.ownBlock] using hb))
    · exact hu.fr_kept hk hM (fun b hb => .inl (by simpa [Value.ownBlock] using hb))
theorem RowI.set_k {g c i : Nat} {x : Value} {n : Nat} : RKI rb (.slice (some ⟨g, 0, none⟩) n c) w (.slice (some ⟨g, 0, none⟩) n c) (w.setCell ⟨g, i, none⟩ x) :=
  ⟨(Kept.setCell ⟨g, i, none⟩ x).more (by intro k hk; simp at hk; subst hk; exact .inl (by simp [Value.ownBlock])), .inl rfl⟩
/-- The row has grown by one. -/
theorem RowI.fin {g cap c : Nat} {A : Option Addr} {u : InV} {w2 wf : World} (h : RowI X rb ty (.slice A L.length c) L w) (hu : RdA w (Fr rb ((rb :: (Value.slice A L.length c).ownBlock.toList) ++ X) w) 2 u.A u.n u.c (flat u.I.rng))
    (hk0 : Kept w w2 (Value.slice A L.length c).ownBlock.toList) (hk1 : Kept w2 wf [rb, g]) (hgo : (Value.slice A L.length c).ownBlock = some g ∨ w.heap.size ≤ g) (hgr : g ≠ rb)
    (hb : Blk wf rb ty [.slice (some ⟨g, 0, none⟩) (L.length + 1) cap]) (ho : wf.ownsRow rb 57 5 (.slice (some ⟨g, 0, none⟩) (L.length + 1) cap) (L.length + 1) (insRow (L ++ [u]))) :
    ∃ v', RowI X rb ty v' (L ++ [u]) wf ∧ RKI rb (.slice A L.length c) w v' wf := by
  have hk : Kept w wf (rb :: (Value.slice A L.length c).ownBlock.toList) := (hk0.trans hk1).more (by
    intro x hx
    rcases List.mem_append.1 hx with h | h
    · exact .inl (List.mem_cons_of_mem _ h)
    · simp only [List.mem_cons, List.not_mem_nil, or_false] at h
      rcases h with rfl | rfl
      · exact .inl (by simp)
      · rcases hgo with h | h
        · exact .inl (by rw [h]; simp)
        · exact .inr h)
  have hL' : ∀ x ∈ (rb :: ((Value.slice (some ⟨g, 0, none⟩) (L.length + 1) cap).ownBlock).toList) ++ X, x ∈ (rb :: (Value.slice A L.length c).ownBlock.toList) ++ X ∨ w.heap.size ≤ x ∨ x < rb := fun x hx => by
    rcases List.mem_append.1 hx with hx | hx
    · simp only [Value.ownBlock, Option.toList_some, List.mem_cons, List.not_mem_nil, or_false] at hx
      rcases hx with rfl | rfl
      · exact .inl (by simp)
      · rcases hgo with h | h
        · exact .inl (by rw [h]; simp)
        · exact .inr (.inl h)
    · exact .inl (List.mem_append_right _ hx)
  refine ⟨_, ⟨hb, by rw [List.length_append]; exact ho, fun z hz => ?_, fun h => hgr (by simpa [Value.ownBlock] using h), fun x hx => Nat.lt_of_lt_of_le (h.xs x hx) hk.size⟩, ⟨hk, ?_⟩⟩
  · rcases List.mem_append.1 hz with hz | hz
    · exact (h.els z hz).fr_kept hk (fun x hx => .inl (List.mem_append_left _ hx)) hL'
    · simp only [List.mem_singleton] at hz
      subst hz
      exact hu.fr_kept hk (fun x hx => .inl (List.mem_append_left _ hx)) hL'
  · rcases hgo with e | e
    · exact .inl e.symm
    · exact .inr ⟨g, rfl, e⟩
/-- Fewer blocks are kept free. -/
theorem RowI.more {X' : List Nat} (h : RowI X rb ty v L w) (hX : ∀ x ∈ X', x ∈ X) : RowI X' rb ty v L w :=
  ⟨h.blk, h.own, fun u hu => (h.els u hu).mono fun b hb => ⟨hb.1, hb.2.1, fun hm => hb.2.2 (by
    rcases List.mem_append.1 hm with hm | hm
    · exact List.mem_append_left _ hm
    · exact List.mem_append_right _ (hX b hm))⟩, h.sep, fun x hx => h.xs x (hX x hx)⟩
/-- A new block is kept free. -/
theorem RowI.add {o : Nat} (h : RowI X rb ty v L w) (hb : Below w.heap.size w w') (h1 : w.heap.size ≤ o) (h2 : o < w'.heap.size) : RowI (o :: X) rb ty v L w' :=
  ⟨h.blk.below hb h.blk.lt, own_below h.own hb, fun u hu => (h.els u hu).fr_kept (Kept.of_below (L := []) hb) (by simp) (fun b hb => by
    rcases List.mem_append.1 hb with hm | hm
    · exact .inl (List.mem_append_left _ hm)
    · rcases List.mem_cons.1 hm with rfl | hm
      · exact .inr (.inl h1)
      · exact .inl (List.mem_append_right _ hm)), h.sep, fun x hx => by
    rcases List.mem_cons.1 hx with rfl | hx
    · exact h2
    · exact Nat.lt_of_lt_of_le (h.xs x hx) hb.size⟩
/-- A block that is kept free is written. -/
theorem RowI.free {o : Nat} (h : RowI X rb ty v L w) (hk : Kept w w' [o]) (ho : o ∈ X) (h1 : o ≠ rb) (h2 : v.ownBlock ≠ some o) : RowI X rb ty v L w' :=
  ⟨h.blk.kept hk (by simpa using h1.symm), own_kept h.own hk (fun b hb hm => by simp at hm; subst hm; exact h2 hb), fun u hu => (h.els u hu).fr_kept hk (fun b hb => by simp at hb; subst hb; exact .inl (List.mem_append_right _ ho)) (fun b hb => .inl hb), h.sep, fun x hx => Nat.lt_of_lt_of_le (h.xs x hx) hk.size⟩
end
/-- Five cells of an own row of instructions are written. -/
theorem own_set5 {w : World} {base g c n : Nat} {L : List InV} {i : Nat} (h : w.ownsRow base 57 5 (.slice (some ⟨g, 0, none⟩) n c) n (insRow L)) {a u : InV} (hi : L[i]? = some a) {x0 x1 x2 x3 x4 : Value} (hu : insVals u.I u.A u.n u.c = [x0, x1, x2, x3, x4]) :
    (((((w.setCell ⟨g, i * 5, none⟩ x0).setCell ⟨g, i * 5 + 1, none⟩ x1).setCell ⟨g, i * 5 + 2, none⟩ x2).setCell ⟨g, i * 5 + 3, none⟩ x3).setCell ⟨g, i * 5 + 4, none⟩ x4).ownsRow base 57 5 (.slice (some ⟨g, 0, none⟩) n c) n (insRow (L.set i u)) := by
  have hil : i < L.length := (List.getElem?_eq_some_iff.1 hi).1
  have hlen := insRow_length L
  have e : (((((insRow L).set (i * 5) x0).set (i * 5 + 1) x1).set (i * 5 + 2) x2).set (i * 5 + 3) x3).set (i * 5 + 4) x4 = insRow (L.set i u) := by
    have hlen2 := insRow_length (L.set i u)
    rw [List.length_set] at hlen2
    refine List.ext_getElem? fun j => ?_
    have hgo : ∀ q, q < 5 → (insRow (L.set i u))[i * 5 + q]? = (insVals u.I u.A u.n u.c)[q]? := fun q hq => insRow_get _ _ _ _ (by rw [List.getElem?_set_self hil]) hq
    by_cases hj : j < L.length * 5
    · by_cases hor : j < i * 5 ∨ i * 5 + 5 ≤ j
      · have hq : j / 5 < L.length := by omega
        have hne : i ≠ j / 5 := by omega
        rw [List.getElem?_set_ne (by omega), List.getElem?_set_ne (by omega), List.getElem?_set_ne (by omega), List.getElem?_set_ne (by omega), List.getElem?_set_ne (by omega)]
        have e1 : j = j / 5 * 5 + j % 5 := by omega
        rw [e1, insRow_get L (j / 5) (j % 5) _ (List.getElem?_eq_getElem hq) (by omega)]
        exact (insRow_get _ _ _ _ (by rw [List.getElem?_set_ne hne, List.getElem?_eq_getElem hq]) (by omega)).symm
      · obtain ⟨q, hq, rfl⟩ : ∃ q, q < 5 ∧ j = i * 5 + q := ⟨j - i * 5, by omega, by omega⟩
        rw [hgo q hq, hu]
        have h00 : i * 5 + 0 < (insRow L).length := by omega
        rw [Nat.add_zero] at h00
        rcases (show q = 0 ∨ q = 1 ∨ q = 2 ∨ q = 3 ∨ q = 4 from by omega) with rfl | rfl | rfl | rfl | rfl
        all_goals simp [List.getElem?_set]
        all_goals (rw [hlen]; omega)
    · rw [List.getElem?_eq_none (by simp only [List.length_set]; omega), List.getElem?_eq_none (by omega)]
  rw [← e]
  have hl5 : ∀ q, q < 5 → i * 5 + q < (insRow L).length := fun q hq => by omega
  have h0 := hl5 0 (by omega)
  exact own_set1 (own_set1 (own_set1 (own_set1 (own_set1 h h0) (by rw [List.length_set]; exact hl5 1 (by omega))) (by simp only [List.length_set]; exact hl5 2 (by omega))) (by simp only [List.length_set]; exact hl5 3 (by omega))) (by simp only [List.length_set]; exact hl5 4 (by omega))
theorem kept5 (w : World) (g i : Nat) (x0 x1 x2 x3 x4 : Value) :
    Kept w (((((w.setCell ⟨g, i, none⟩ x0).setCell ⟨g, i + 1, none⟩ x1).setCell ⟨g, i + 2, none⟩ x2).setCell ⟨g, i + 3, none⟩ x3).setCell ⟨g, i + 4, none⟩ x4) [g] :=
  (((((Kept.setCell ⟨g, i, none⟩ x0).trans (Kept.setCell ⟨g, i + 1, none⟩ x1)).trans (Kept.setCell ⟨g, i + 2, none⟩ x2)).trans (Kept.setCell ⟨g, i + 3, none⟩ x3)).trans (Kept.setCell ⟨g, i + 4, none⟩ x4)).more (by intro b hb; simp at hb; exact .inl (by simp [hb]))
end Go.Proofs.Ytclbbfkgdhmheaa
/- prog's row: next, put, end, full. -/
namespace Go.Proofs.Ytclbbfkgdhmheaa
open Go.RowKit Go.Proofs.Ytclbbfkgdhmheaa.Mach
variable {X : List Nat}

theorem dbg {P : Prop} (h : Hid P) : P := h.out
theorem info_inst : (Try.prog.info? 57).map (fun i => (i.zero, i.size, i.bytes)) = some (some (.agg #[.int .i64 0, .int .i64 0, .int .i64 0, .int .i64 0, .slice none 0 0]), 5, 56) := by kernel_rfl
set_option maxRecDepth 100000 in
set_option maxHeartbeats 2000000 in
theorem next_any (rb : Nat) (v : Value) (L : List InV) (w : World) (h : RowI X rb 52 v L w) :
    Calls Try.prog 30 #[.pointer (some ⟨rb, 0, none⟩)] w fun e w' => e = .returned (.int .i64 L.length) ∧ w' = w := by
  obtain ⟨A, c, rfl⟩ := own_shape h.own
  have e0 : w.cell? ⟨rb, 0, none⟩ = some (.slice A L.length c) := h.blk.cell 0
  clear h
  go_enter Try.func30, Try.ntmps30
  go_wp2_with fail
  go_ret
  exact ⟨rfl, rfl⟩
set_option maxRecDepth 100000 in
set_option maxHeartbeats 2000000 in
theorem full_any (rb : Nat) (v : Value) (L : List InV) (w : World) (h : RowI X rb 52 v L w) :
    Calls Try.prog 17 #[.pointer (some ⟨rb, 0, none⟩)] w fun e w' => e = .returned (.bool (decide (20000 < L.length))) ∧ w' = w := by
  obtain ⟨A, c, rfl⟩ := own_shape h.own
  have e0 : w.cell? ⟨rb, 0, none⟩ = some (.slice A L.length c) := h.blk.cell 0
  clear h
  go_enter Try.func17, Try.ntmps17
  go_wp2_with fail
  go_ret
  exact ⟨ret_bool (by simp; omega), rfl⟩
set_option maxRecDepth 100000 in
set_option maxHeartbeats 2000000 in
theorem put_walk (rb : Nat) (op arg : Int) (v : Value) (L : List InV) (w : World) (h : RowI X rb 52 v L w) (hl : L.length ≤ 1000000000) :
    Calls Try.prog 14 #[.pointer (some ⟨rb, 0, none⟩), .int .i64 op, .int .i64 arg] w fun e w' => e = .returned (.int .i64 L.length) ∧ ∃ v', RowI X rb 52 v' (L ++ [⟨⟨op, (L.length : Int) + 1, 0, arg, []⟩, none, 0, 0⟩]) w' ∧ RKI rb v w v' w' := by
  obtain ⟨i0, hi, hz0, hz1, hz2⟩ := info_parts info_inst
  have hn := next_any rb v L w h
  obtain ⟨A, c, rfl⟩ := own_shape h.own
  have H := Lib.hid h
  have HN := Lib.hid hn
  have hba : Below w.heap.size w (w.alloc (.cells #[.int .i64 op, .int .i64 ((L.length : Int) + 1), .int .i64 0, .int .i64 arg, .slice none 0 0] 57)) := (Below.refl _ _).alloc (Nat.le_refl _) _
  have HB := Lib.hid (h.blk.alloc (.cells #[.int .i64 op, .int .i64 ((L.length : Int) + 1), .int .i64 0, .int .i64 arg, .slice none 0 0] 57))
  have HO := Lib.hid (own_below h.own hba)
  have HBA := Lib.hid hba
  have hbs : rb ≤ (w.alloc (.cells #[.int .i64 op, .int .i64 ((L.length : Int) + 1), .int .i64 0, .int .i64 arg, .slice none 0 0] 57)).heap.size := Nat.le_trans (Nat.le_of_lt h.blk.lt) hba.size
  have e0 : w.cell? ⟨rb, 0, none⟩ = some (.slice A L.length c) := h.blk.cell 0
  have e1 : (w.alloc (.cells #[.int .i64 op, .int .i64 ((L.length : Int) + 1), .int .i64 0, .int .i64 arg, .slice none 0 0] 57)).cell? ⟨rb, 0, none⟩ = some (.slice A L.length c) := HB.out.cell 0
  clear h hn hba
  go_enter Try.func14, Try.ntmps14
  go_wp2_with fail
  refine HN.out.mono ?_
  rintro e w1 ⟨rfl, hw⟩
  subst w1
  simp only []
  go_wp2_with (first
    | (at_builtin; refine wpList_append_lies _ rfl (.tmp 14) (.tmp 20) 26 rfl rb 57 i0 (.agg #[.int .i64 0, .int .i64 0, .int .i64 0, .int .i64 0, .slice none 0 0]) 5 56 Try.underlying26 hi hz0 hz1 hz2 rfl (by decide) (.slice A L.length c) L.length (insRow L) rfl HO.out ⟨w.heap.size, 0, none⟩ 1 1 [.int .i64 op, .int .i64 ((L.length : Int) + 1), .int .i64 0, .int .i64 arg, .slice none 0 0] rfl rfl (new_atT w _ [.int .i64 op, .int .i64 ((L.length : Int) + 1), .int .i64 0, .int .i64 arg, .slice none 0 0]) (insV_one ⟨op, (L.length : Int) + 1, 0, arg, []⟩ none 0 0) (by decide) (by unfold maxLen; omega) (by omega) hbs _ rfl ?_; intro g cap2 w2 hou2 hg2 hat2 hlt2; have hgo := at_old HBA.out.size hat2; have hgr : g ≠ rb := (fun e => (by rcases hgo with h | h; exact H.out.sep (by rw [h, e]); have := H.out.blk.lt; omega)); have hb2 := HB.out.grown hg2 H.out.sep.symm; have q1 : w2.cell? ⟨rb, 0, none⟩ = some (.slice A L.length c) := hb2.cell 0; have q2 := hb2.frozen 0; have q3 := hb2.lt; have HOU := Lib.hid hou2; have HGO := Lib.hid hgo; have HGR := Lib.hid hgr; have HB2 := Lib.hid hb2; have HG2 := Lib.hid hg2; clear hgo hgr hb2 hg2 hou2 hat2))
  go_ret
  refine ⟨rfl, RowI.fin (c := c) H.out RdA.none_ (((Kept.of_below (L := []) HBA.out).trans (Kept.of_grown' HG2.out)).more (by intro k hk; simp at hk ⊢; exact .inl hk)) ((Kept.setCell ⟨rb, 0, none⟩ (.slice (some ⟨g, 0, none⟩) (L.length + 1) cap2)).more (by intro k hk; simp at hk ⊢; exact .inl (.inl hk))) HGO.out HGR.out (HB2.out.set_ 0 _) ?_⟩
  rw [insRow_app, insRow_one]
  exact own_kept HOU.out (Kept.setCell (w := w2) ⟨rb, 0, none⟩ _) (fun x hx hm => by simp [Value.ownBlock] at hx hm; exact HGR.out (by rw [hx, hm]))
set_option maxRecDepth 100000 in
set_option maxHeartbeats 2000000 in
theorem end_walk (rb : Nat) (I : Ins) (hI : I.rng = []) (v : Value) (L : List InV) (w : World) (h : RowI X rb 52 v L w) (hl : L.length ≤ 1000000000) :
    Calls Try.prog 16 #[.pointer (some ⟨rb, 0, none⟩), .agg #[.int .i64 I.op, .int .i64 I.x, .int .i64 I.y, .int .i64 I.arg, .slice none 0 0]] w fun e w' => e = .returned (.tuple #[]) ∧ ∃ v', RowI X rb 52 v' (L ++ [⟨I, none, 0, 0⟩]) w' ∧ RKI rb v w v' w' := by
  obtain ⟨i0, hi, hz0, hz1, hz2⟩ := info_parts info_inst
  obtain ⟨A, c, rfl⟩ := own_shape h.own
  have hba : Below w.heap.size w (w.alloc (.cells #[.int .i64 I.op, .int .i64 I.x, .int .i64 I.y, .int .i64 I.arg, .slice none 0 0] 57)) := (Below.refl _ _).alloc (Nat.le_refl _) _
  have hb1 := h.blk.below hba h.blk.lt
  have ho1 := own_below h.own hba
  have ht1 := Blk.new w 57 [.int .i64 I.op, .int .i64 I.x, .int .i64 I.y, .int .i64 I.arg, .slice none 0 0]
  have hbs0 : rb ≤ (w.alloc (.cells #[.int .i64 I.op, .int .i64 I.x, .int .i64 I.y, .int .i64 I.arg, .slice none 0 0] 57)).heap.size := Nat.le_trans (Nat.le_of_lt h.blk.lt) hba.size
  have H := Lib.hid h
  have HI := Lib.hid hI
  clear h hI
  go_enter Try.func16, Try.ntmps16
  go_wp2_with (at_builtin; refine dbg ?_)
  generalize (w.alloc (.cells #[.int .i64 I.op, .int .i64 I.x, .int .i64 I.y, .int .i64 I.arg, .slice none 0 0] 57)) = w1 at *
  have hb12 : Below w1.heap.size w1 (w1.alloc (.cells #[.int .i64 I.op, .int .i64 I.x, .int .i64 I.y, .int .i64 I.arg, .slice none 0 0] 57)) := (Below.refl _ _).alloc (Nat.le_refl _) _
  have HB := Lib.hid (hb1.alloc (.cells #[.int .i64 I.op, .int .i64 I.x, .int .i64 I.y, .int .i64 I.arg, .slice none 0 0] 57))
  have ht2 := ht1.alloc (.cells #[.int .i64 I.op, .int .i64 I.x, .int .i64 I.y, .int .i64 I.arg, .slice none 0 0] 57)
  have HO := Lib.hid (own_below ho1 hb12)
  have hbs : rb ≤ (w1.alloc (.cells #[.int .i64 I.op, .int .i64 I.x, .int .i64 I.y, .int .i64 I.arg, .slice none 0 0] 57)).drew.heap.size := Nat.le_trans hbs0 hb12.size
  have e0 : w1.drew.cell? ⟨rb, 0, none⟩ = some (.slice A L.length c) := hb1.cell 0
  have e1 : (w1.alloc (.cells #[.int .i64 I.op, .int .i64 I.x, .int .i64 I.y, .int .i64 I.arg, .slice none 0 0] 57)).drew.cell? ⟨rb, 0, none⟩ = some (.slice A L.length c) := HB.out.cell 0
  have g0 : w1.drew.cell? ⟨w.heap.size, 0, none⟩ = some (.int .i64 I.op) := ht1.cell 0
  have f0 : (w1.alloc (.cells #[.int .i64 I.op, .int .i64 I.x, .int .i64 I.y, .int .i64 I.arg, .slice none 0 0] 57)).drew.cell? ⟨w.heap.size, 0, none⟩ = some (.int .i64 I.op) := ht2.cell 0
  have g1 : w1.drew.cell? ⟨w.heap.size, 1, none⟩ = some (.int .i64 I.x) := ht1.cell 1
  have f1 : (w1.alloc (.cells #[.int .i64 I.op, .int .i64 I.x, .int .i64 I.y, .int .i64 I.arg, .slice none 0 0] 57)).drew.cell? ⟨w.heap.size, 1, none⟩ = some (.int .i64 I.x) := ht2.cell 1
  have g2 : w1.drew.cell? ⟨w.heap.size, 2, none⟩ = some (.int .i64 I.y) := ht1.cell 2
  have f2 : (w1.alloc (.cells #[.int .i64 I.op, .int .i64 I.x, .int .i64 I.y, .int .i64 I.arg, .slice none 0 0] 57)).drew.cell? ⟨w.heap.size, 2, none⟩ = some (.int .i64 I.y) := ht2.cell 2
  have g3 : w1.drew.cell? ⟨w.heap.size, 3, none⟩ = some (.int .i64 I.arg) := ht1.cell 3
  have f3 : (w1.alloc (.cells #[.int .i64 I.op, .int .i64 I.x, .int .i64 I.y, .int .i64 I.arg, .slice none 0 0] 57)).drew.cell? ⟨w.heap.size, 3, none⟩ = some (.int .i64 I.arg) := ht2.cell 3
  have g4 : w1.drew.cell? ⟨w.heap.size, 4, none⟩ = some (.slice none 0 0) := ht1.cell 4
  have f4 : (w1.alloc (.cells #[.int .i64 I.op, .int .i64 I.x, .int .i64 I.y, .int .i64 I.arg, .slice none 0 0] 57)).drew.cell? ⟨w.heap.size, 4, none⟩ = some (.slice none 0 0) := ht2.cell 4
  have HBA := Lib.hid hba
  have HB12 := Lib.hid hb12
  have HSZ := Lib.hid (show w.heap.size ≤ (w1.alloc (.cells #[.int .i64 I.op, .int .i64 I.x, .int .i64 I.y, .int .i64 I.arg, .slice none 0 0] 57)).drew.heap.size from Nat.le_trans hba.size hb12.size)
  clear hba hb1 ho1 ht1 ht2 hb12 hbs0
  go_region_law (first
    | (refine step_append_lies _ rfl (.tmp 8) (.tmp 10) 26 rfl rb 57 i0 (.agg #[.int .i64 0, .int .i64 0, .int .i64 0, .int .i64 0, .slice none 0 0]) 5 56 Try.underlying26 hi hz0 hz1 hz2 rfl (by decide) (.slice A L.length c) L.length (insRow L) rfl HO.out.drew ⟨w1.heap.size, 0, none⟩ 1 1 [.int .i64 I.op, .int .i64 I.x, .int .i64 I.y, .int .i64 I.arg, .slice none 0 0] rfl rfl (new_atT w1 _ [.int .i64 I.op, .int .i64 I.x, .int .i64 I.y, .int .i64 I.arg, .slice none 0 0]) (insV_one I none 0 0) (by decide) (by unfold maxLen; omega) (by omega) hbs _ rfl ?_; intro g cap2 w2 hou2 hg2 hat2 hlt2; have hgo := at_old HSZ.out hat2; have hgr : g ≠ rb := (fun e => (by rcases hgo with h | h; exact H.out.sep (by rw [h, e]); have := H.out.blk.lt; omega)); have hb2 := HB.out.drew.grown hg2 H.out.sep.symm; have q1 : w2.cell? ⟨rb, 0, none⟩ = some (.slice A L.length c) := hb2.cell 0; have q2 := hb2.frozen 0; have q3 := hb2.lt; have HOU := Lib.hid hou2; have HGO := Lib.hid hgo; have HGR := Lib.hid hgr; have HB2 := Lib.hid hb2; have HG2 := Lib.hid hg2; clear hgo hgr hb2 hg2 hou2 hat2))
  all_goals
    go_end0
    refine ⟨rfl, RowI.fin (c := c) H.out (by rw [HI.out]; exact RdA.none_) (((Kept.of_below (L := []) HBA.out).trans ((Kept.of_below (L := []) HB12.out).trans ((Kept.drew (L := [])).trans (Kept.of_grown' HG2.out)))).more (by intro k hk; simp at hk ⊢; exact .inl hk)) ((Kept.setCell ⟨rb, 0, none⟩ (.slice (some ⟨g, 0, none⟩) (L.length + 1) cap2)).more (by intro k hk; simp at hk ⊢; exact .inl (.inl hk))) HGO.out HGR.out (HB2.out.set_ 0 _) ?_⟩
    rw [insRow_app, insRow_one]
    exact own_kept HOU.out (Kept.setCell (w := w2) ⟨rb, 0, none⟩ _) (fun x hx hm => by simp [Value.ownBlock] at hx hm; exact HGR.out (by rw [hx, hm]))
end Go.Proofs.Ytclbbfkgdhmheaa
