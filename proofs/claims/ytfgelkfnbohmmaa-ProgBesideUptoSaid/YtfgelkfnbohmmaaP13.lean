/- A row of instructions that grows behind a pointer: words. No program here but the cells of an instruction. -/
import Derived.Test.YtfgelkfnbohmmaaP03
import Derived.Test.YtfgelkfnbohmmaaP07
import Derived.Test.YtfgelkfnbohmmaaP12
namespace Go.Proofs.Ytfgelkfnbohmmaa
open Go.RowKit Go.Proofs.Ytfgelkfnbohmmaa.Mach
variable {X : List Nat}
/-- The row's slice stands in the cell of block rb; its own block and its ranges lie from rb on, apart. -/
structure RowI (X : List Nat) (rb : Nat) (ty : TypeId) (v : Value) (L : List InV) (w : World) : Prop where
  blk : Blk w rb ty [v]
  own : w.ownsRow rb 54 5 v L.length (insRow L)
  els : ∀ u ∈ L, RdA w (Fr rb ((rb :: v.ownBlock.toList) ++ X) w) 2 u.A u.n u.c (flat u.I.rng)
  sep : v.ownBlock ≠ some rb
  xs : ∀ x ∈ X, x < w.heap.size
/-- From the row v in w to the row v' in w'. -/
structure RKI (rb : Nat) (v : Value) (w : World) (v' : Value) (w' : World) : Prop where
  kept : Kept w w' (rb :: v.ownBlock.toList)
  ow : v'.ownBlock = v.ownBlock ∨ ∃ g, v'.ownBlock = some g ∧ w.heap.size ≤ g
/-- A block that the row does not touch. -/
structure NB (rb g : Nat) (ty : TypeId) (cs : List Value) (v : Value) (w : World) : Prop where
  blk : Blk w g ty cs
  ne : g ≠ rb
  sep : v.ownBlock ≠ some g
theorem RKI.of_below {rb : Nat} {v : Value} {w w' : World} (h : Below w.heap.size w w') : RKI rb v w v w' := ⟨Kept.of_below h, .inl rfl⟩
theorem RKI.trans {rb : Nat} {v v1 v2 : Value} {w w1 w2 : World} (h : RKI rb v w v1 w1) (g : RKI rb v1 w1 v2 w2) : RKI rb v w v2 w2 := by
  refine ⟨(h.kept.trans g.kept).more ?_, ?_⟩
  · intro x hx
    rcases List.mem_append.1 hx with hx | hx
    · exact .inl hx
    · rcases List.mem_cons.1 hx with rfl | hx
      · exact .inl (by simp)
      · rcases h.ow with e | ⟨y, e, hy⟩
        · rw [e] at hx; exact .inl (List.mem_cons_of_mem _ hx)
        · rw [e] at hx; simp at hx; subst hx; exact .inr hy
  · rcases g.ow with e | ⟨y, e, hy⟩
    · rcases h.ow with f | ⟨z, f, hz⟩
      · exact .inl (e.trans f)
      · exact .inr ⟨z, e.trans f, hz⟩
    · exact .inr ⟨y, e, Nat.le_trans h.kept.size hy⟩
theorem RKI.nb {rb g : Nat} {ty : TypeId} {cs : List Value} {v v1 : Value} {w w1 : World} (h : RKI rb v w v1 w1) (n : NB rb g ty cs v w) : NB rb g ty cs v1 w1 := by
  refine ⟨n.blk.kept h.kept fun hm => ?_, n.ne, fun e => ?_⟩
  · rcases List.mem_cons.1 hm with hm | hm
    · exact n.ne hm
    · exact n.sep (by simpa using hm)
  · rcases h.ow with f | ⟨y, f, hy⟩
    · exact n.sep (f.symm.trans e)
    · rw [f] at e
      have := n.blk.lt
      simp at e
      omega
theorem RowI.new {rb : Nat} {ty ty2 : TypeId} {v : Value} {L : List InV} {w : World} (h : RowI X rb ty v L w) (cs : List Value) : NB rb w.heap.size ty2 cs v (w.alloc (.cells cs.toArray ty2)) := by
  have := h.blk.lt
  refine ⟨Blk.new w ty2 cs, by omega, fun e => ?_⟩
  have := h.own.lt _ e
  omega
theorem RowI.low {rb : Nat} {ty : TypeId} {v v' : Value} {L : List InV} {w w' : World} (h : RowI X rb ty v L w) (k : RKI rb v w v' w') : Below rb w w' :=
  k.kept.below (fun x hx => by
    rcases List.mem_cons.1 hx with rfl | hx
    · exact Nat.le_refl _
    · have := h.own.lt x (by simpa using hx); omega) (Nat.le_of_lt h.blk.lt)
def zI : InV := ⟨⟨0, 0, 0, 0, []⟩, none, 0, 0⟩
theorem insV_one (I : Ins) (A : Option Addr) (n c : Nat) : ∀ u ∈ insVals I A n c, u.oneCell' = true := by
  intro u hu
  simp only [insVals, List.mem_cons, List.not_mem_nil, or_false] at hu
  rcases hu with rfl | rfl | rfl | rfl | rfl <;> rfl
theorem insRow_app (a b : List InV) : insRow (a ++ b) = insRow a ++ insRow b := by unfold insRow; rw [List.flatMap_append]
theorem insRow_one (v : InV) : insRow [v] = insVals v.I v.A v.n v.c := by unfold insRow; simp
theorem insRow_at (L : List InV) (v : InV) (q : Nat) (hq : q < 5) : (insRow (L ++ [v]))[L.length * 5 + q]? = (insVals v.I v.A v.n v.c)[q]? := insRow_get _ _ _ _ (by rw [List.getElem?_append_right (Nat.le_refl _), Nat.sub_self]; rfl) hq
/-- One cell of an instruction of a row is written. -/
theorem insRow_set {L : List InV} {i q : Nat} {v u : InV} {x : Value} (hv : L[i]? = some v) (hq : q < 5) (hx : (insVals v.I v.A v.n v.c).set q x = insVals u.I u.A u.n u.c) : (insRow L).set (i * 5 + q) x = insRow (L.set i u) := by
  induction L generalizing i with
  | nil => simp at hv
  | cons a L ih =>
    cases i with
    | zero =>
      simp only [List.getElem?_cons_zero, Option.some.injEq] at hv
      subst hv
      rw [List.set_cons_zero, Nat.zero_mul, Nat.zero_add]
      show (insVals a.I a.A a.n a.c ++ insRow L).set q x = insVals u.I u.A u.n u.c ++ insRow L
      rw [List.set_append_left _ _ (by simpa [insVals] using hq), hx]
    | succ i =>
      rw [List.set_cons_succ]
      show (insVals a.I a.A a.n a.c ++ insRow L).set ((i + 1) * 5 + q) x = insVals a.I a.A a.n a.c ++ insRow (L.set i u)
      rw [List.set_append_right _ _ (by simp [insVals]; omega), show (i + 1) * 5 + q - (insVals a.I a.A a.n a.c).length = i * 5 + q from by simp [insVals]; omega, ih (by simpa using hv)]
section
variable {w w' : World} {rb : Nat} {ty : TypeId} {v : Value} {L : List InV}
theorem RowI.below (h : RowI X rb ty v L w) (hb : Below w.heap.size w w') : RowI X rb ty v L w' :=
  ⟨h.blk.below hb h.blk.lt, own_below h.own hb, fun u hu => (h.els u hu).fr_below hb, h.sep, fun x hx => Nat.lt_of_lt_of_le (h.xs x hx) hb.size⟩
/-- One cell of an own row is written. -/
theorem own_set1 {base g c n i : Nat} {e : TypeId} {size : Nat} {xs : List Value} {x : Value} (h : w.ownsRow base e size (.slice (some ⟨g, 0, none⟩) n c) n xs) (hi : i < xs.length) : (w.setCell ⟨g, i, none⟩ x).ownsRow base e size (.slice (some ⟨g, 0, none⟩) n c) n (xs.set i x) := by
  rcases h.2 with ⟨h0, _⟩ | ⟨g', cap, cur, hv, hb, hh, hnc, hcm, hcs, ht⟩
  · cases h0
  · simp only [Value.slice.injEq, Option.some.injEq, Addr.mk.injEq, and_true] at hv
    obtain ⟨rfl, _, rfl⟩ := hv
    have hl := h.1
    have hb0 : Blk w g e (xs ++ cur.toList.drop (n * size)) := by
      unfold Blk
      rw [← ht, List.take_append_drop, Array.toArray_toList]
      exact hh
    have hb1 := hb0.set_ i x
    have hcl : cur.toList.length = c * size := (Array.length_toList (xs := cur)).trans hcs
    have hmul : n * size ≤ c * size := Nat.mul_le_mul_right _ hnc
    rw [List.set_append_left _ _ hi] at hb1
    have hlen : (xs.set i x ++ cur.toList.drop (n * size)).length = c * size := by
      rw [List.length_append, List.length_set, List.length_drop, hcl, hl]; omega
    have := hb1.own (base := base) (size := size) hb hnc (by unfold maxLen at hcm; omega) hlen
    rwa [List.take_append_of_le_length (by rw [List.length_set, hl]; omega), List.take_of_length_le (by rw [List.length_set, hl]; omega)] at this
/-- A cell of an instruction of the row is written. -/
theorem RowI.set_ {g c i q : Nat} {x : Value} {a u : InV} (h : RowI X rb ty (.slice (some ⟨g, 0, none⟩) L.length c) L w) (ha : L[i]? = some a) (hq : q < 5) (hx : (insVals a.I a.A a.n a.c).set q x = insVals u.I u.A u.n u.c)
    (hu : RdA w (Fr rb ([rb, g] ++ X) w) 2 u.A u.n u.c (flat u.I.rng)) :
    RowI X rb ty (.slice (some ⟨g, 0, none⟩) (L.set i u).length c) (L.set i u) (w.setCell ⟨g, i * 5 + q, none⟩ x) := by
  have hil : i < L.length := (List.getElem?_eq_some_iff.1 ha).1
  have hgr : g ≠ rb := fun e => h.sep (by rw [e]; rfl)
  have hk := Kept.setCell (w := w) ⟨g, i * 5 + q, none⟩ x
  have hM : ∀ b ∈ [g], b ∈ [rb, g] ++ X ∨ w.heap.size ≤ b ∨ b < rb := fun b hb => by simp at hb; subst hb; exact .inl (by simp)
  have hlt : i * 5 + q < (insRow L).length := by rw [insRow_length]; omega
  refine ⟨?_, ?_, ?_, h.sep, fun x hx => Nat.lt_of_lt_of_le (h.xs x hx) hk.size⟩
  · rw [List.length_set]; exact h.blk.kept hk (by simpa using hgr.symm)
  · rw [List.length_set, ← insRow_set ha hq hx]
    exact own_set1 h.own hlt
  · intro z hz
    have hz2 : z ∈ L ∨ z = u := List.mem_or_eq_of_mem_set hz
    rcases hz2 with hz2 | rfl
    · exact (h.els z hz2).fr_kept hk hM (fun b hb => .inl (by simpa [Value.ownBlock] using hb))
    · exact hu.fr_kept hk hM (fun b hb => .inl (by simpa [Value.ownBlock] using hb))
theorem RowI.set_k {g c i : Nat} {x : Value} {n : Nat} : RKI rb (.slice (some ⟨g, 0, none⟩) n c) w (.slice (some ⟨g, 0, none⟩) n c) (w.setCell ⟨g, i, none⟩ x) :=
  ⟨(Kept.setCell ⟨g, i, none⟩ x).more (by intro k hk; simp at hk; subst hk; exact .inl (by simp [Value.ownBlock])), .inl rfl⟩
/-- The row has grown by one. -/
theorem RowI.fin {g cap c : Nat} {A : Option Addr} {u : InV} {w2 wf : World} (h : RowI X rb ty (.slice A L.length c) L w) (hu : RdA w (Fr rb ((rb :: (Value.slice A L.length c).ownBlock.toList) ++ X) w) 2 u.A u.n u.c (flat u.I.rng))
    (hk0 : Kept w w2 (Value.slice A L.length c).ownBlock.toList) (hk1 : Kept w2 wf [rb, g]) (hgo : (Value.slice A L.length c).ownBlock = some g ∨ w.heap.size ≤ g) (hgr : g ≠ rb)
    (hb : Blk wf rb ty [.slice (some ⟨g, 0, none⟩) (L.length + 1) cap]) (ho : wf.ownsRow rb 54 5 (.slice (some ⟨g, 0, none⟩) (L.length + 1) cap) (L.length + 1) (insRow (L ++ [u]))) :
    ∃ v', RowI X rb ty v' (L ++ [u]) wf ∧ RKI rb (.slice A L.length c) w v' wf := by
  have hk : Kept w wf (rb :: (Value.slice A L.length c).ownBlock.toList) := (hk0.trans hk1).more (by
    intro x hx
    rcases List.mem_append.1 hx with h | h
    · exact .inl (List.mem_cons_of_mem _ h)
    · simp only [List.mem_cons, List.not_mem_nil, or_false] at h
      rcases h with rfl | rfl
      · exact .inl (by simp)
      · rcases hgo with h | h
        · exact .inl (by rw [h]; simp)
        · exact .inr h)
  have hL' : ∀ x ∈ (rb :: ((Value.slice (some ⟨g, 0, none⟩) (L.length + 1) cap).ownBlock).toList) ++ X, x ∈ (rb :: (Value.slice A L.length c).ownBlock.toList) ++ X ∨ w.heap.size ≤ x ∨ x < rb := fun x hx => by
    rcases List.mem_append.1 hx with hx | hx
    · simp only [Value.ownBlock, Option.toList_some, List.mem_cons, List.not_mem_nil, or_false] at hx
      rcases hx with rfl | rfl
      · exact .inl (by simp)
      · rcases hgo with h | h
        · exact .inl (by rw [h]; simp)
        · exact .inr (.inl h)
    · exact .inl (List.mem_append_right _ hx)
  refine ⟨_, ⟨hb, by rw [List.length_append]; exact ho, fun z hz => ?_, fun h => hgr (by simpa [Value.ownBlock] using h), fun x hx => Nat.lt_of_lt_of_le (h.xs x hx) hk.size⟩, ⟨hk, ?_⟩⟩
  · rcases List.mem_append.1 hz with hz | hz
    · exact (h.els z hz).fr_kept hk (fun x hx => .inl (List.mem_append_left _ hx)) hL'
    · simp only [List.mem_singleton] at hz
      subst hz
      exact hu.fr_kept hk (fun x hx => .inl (List.mem_append_left _ hx)) hL'
  · rcases hgo with e | e
    · exact .inl e.symm
    · exact .inr ⟨g, rfl, e⟩
/-- Fewer blocks are kept free. -/
theorem RowI.more {X' : List Nat} (h : RowI X rb ty v L w) (hX : ∀ x ∈ X', x ∈ X) : RowI X' rb ty v L w :=
  ⟨h.blk, h.own, fun u hu => (h.els u hu).mono fun b hb => ⟨hb.1, hb.2.1, fun hm => hb.2.2 (by
    rcases List.mem_append.1 hm with hm | hm
    · exact List.mem_append_left _ hm
    · exact List.mem_append_right _ (hX b hm))⟩, h.sep, fun x hx => h.xs x (hX x hx)⟩
/-- A new block is kept free. -/
theorem RowI.add {o : Nat} (h : RowI X rb ty v L w) (hb : Below w.heap.size w w') (h1 : w.heap.size ≤ o) (h2 : o < w'.heap.size) : RowI (o :: X) rb ty v L w' :=
  ⟨h.blk.below hb h.blk.lt, own_below h.own hb, fun u hu => (h.els u hu).fr_kept (Kept.of_below (L := []) hb) (by simp) (fun b hb => by
    rcases List.mem_append.1 hb with hm | hm
    · exact .inl (List.mem_append_left _ hm)
    · rcases List.mem_cons.1 hm with rfl | hm
      · exact .inr (.inl h1)
      · exact .inl (List.mem_append_right _ hm)), h.sep, fun x hx => by
    rcases List.mem_cons.1 hx with rfl | hx
    · exact h2
    · exact Nat.lt_of_lt_of_le (h.xs x hx) hb.size⟩
end
/-- Five cells of an own row of instructions are written. -/
theorem own_set5 {w : World} {base g c n : Nat} {L : List InV} {i : Nat} (h : w.ownsRow base 54 5 (.slice (some ⟨g, 0, none⟩) n c) n (insRow L)) {a u : InV} (hi : L[i]? = some a) {x0 x1 x2 x3 x4 : Value} (hu : insVals u.I u.A u.n u.c = [x0, x1, x2, x3, x4]) :
    (((((w.setCell ⟨g, i * 5, none⟩ x0).setCell ⟨g, i * 5 + 1, none⟩ x1).setCell ⟨g, i * 5 + 2, none⟩ x2).setCell ⟨g, i * 5 + 3, none⟩ x3).setCell ⟨g, i * 5 + 4, none⟩ x4).ownsRow base 54 5 (.slice (some ⟨g, 0, none⟩) n c) n (insRow (L.set i u)) := by
  have hil : i < L.length := (List.getElem?_eq_some_iff.1 hi).1
  have hlen := insRow_length L
  have e : (((((insRow L).set (i * 5) x0).set (i * 5 + 1) x1).set (i * 5 + 2) x2).set (i * 5 + 3) x3).set (i * 5 + 4) x4 = insRow (L.set i u) := by
    have hlen2 := insRow_length (L.set i u)
    rw [List.length_set] at hlen2
    refine List.ext_getElem? fun j => ?_
    have hgo : ∀ q, q < 5 → (insRow (L.set i u))[i * 5 + q]? = (insVals u.I u.A u.n u.c)[q]? := fun q hq => insRow_get _ _ _ _ (by rw [List.getElem?_set_self hil]) hq
    by_cases hj : j < L.length * 5
    · by_cases hor : j < i * 5 ∨ i * 5 + 5 ≤ j
      · have hq : j / 5 < L.length := by omega
        have hne : i ≠ j / 5 := by omega
        rw [List.getElem?_set_ne (by omega), List.getElem?_set_ne (by omega), List.getElem?_set_ne (by omega), List.getElem?_set_ne (by omega), List.getElem?_set_ne (by omega)]
        have e1 : j = j / 5 * 5 + j % 5 := by omega
        rw [e1, insRow_get L (j / 5) (j % 5) _ (List.getElem?_eq_getElem hq) (by omega)]
        exact (insRow_get _ _ _ _ (by rw [List.getElem?_set_ne hne, List.getElem?_eq_getElem hq]) (by omega)).symm
      · obtain ⟨q, hq, rfl⟩ : ∃ q, q < 5 ∧ j = i * 5 + q := ⟨j - i * 5, by omega, by omega⟩
        rw [hgo q hq, hu]
        have h00 : i * 5 + 0 < (insRow L).length := by omega
        rw [Nat.add_zero] at h00
        rcases (show q = 0 ∨ q = 1 ∨ q = 2 ∨ q = 3 ∨ q = 4 from by omega) with rfl | rfl | rfl | rfl | rfl
        all_goals simp [List.getElem?_set]
        all_goals (rw [hlen]; omega)
    · rw [List.getElem?_eq_none (by simp only [List.length_set]; omega), List.getElem?_eq_none (by omega)]
  rw [← e]
  have hl5 : ∀ q, q < 5 → i * 5 + q < (insRow L).length := fun q hq => by omega
  have h0 := hl5 0 (by omega)
  exact own_set1 (own_set1 (own_set1 (own_set1 (own_set1 h h0) (by rw [List.length_set]; exact hl5 1 (by omega))) (by simp only [List.length_set]; exact hl5 2 (by omega))) (by simp only [List.length_set]; exact hl5 3 (by omega))) (by simp only [List.length_set]; exact hl5 4 (by omega))
end Go.Proofs.Ytfgelkfnbohmmaa
namespace Go.Proofs.Ytfgelkfnbohmmaa
open Go.RowKit Go.Proofs.Ytfgelkfnbohmmaa.Tr
set_option maxRecDepth 100000 in
set_option maxHeartbeats 2000000 in
theorem tree_any (B Bo : Nat) (X : List Nat) (rb : Nat) (v : Value) (us : List Ta) (w : World) (hr : RowV B Bo X rb 122 f1 v us w) (hB : B ≤ Bo) (hX : ∀ x ∈ X, x < Bo) (hn : us.length ≤ 1048576) :
    Calls Try.prog 67 #[.pointer (some ⟨rb, 0, none⟩)] w fun e w' => ∃ u : Ta, e = .returned u.val ∧ u.tr = row (trs us) ∧ RT w' (Fr B (X ++ [rb]) w') u ∧ Below w.heap.size w w' := by
  obtain ⟨A, c, rfl⟩ := own_shape hr.own
  have hrb := hr.blk.lt
  have hb1 : Blk (w.alloc (.cells #[.int .i64 0, .slice none 0 0, .int .i64 0, .slice none 0 0, .int .i64 0, .int .i64 0, .bool false, .int .i64 0, .string ⟨#[]⟩] 25)) rb 122 [.slice A us.length c] := hr.blk.alloc _
  have c0 : (w.alloc (.cells #[.int .i64 0, .slice none 0 0, .int .i64 0, .slice none 0 0, .int .i64 0, .int .i64 0, .bool false, .int .i64 0, .string ⟨#[]⟩] 25)).cell? ⟨rb, 0, none⟩ = some (.slice A us.length c) := hb1.cell 0
  have hba : Below w.heap.size w (w.alloc (.cells #[.int .i64 0, .slice none 0 0, .int .i64 0, .slice none 0 0, .int .i64 0, .int .i64 0, .bool false, .int .i64 0, .string ⟨#[]⟩] 25)) := (Below.refl _ _).alloc (Nat.le_refl _) _
  have hre := Blk.new w 25 [.int .i64 0, .slice none 0 0, .int .i64 0, .slice none 0 0, .int .i64 0, .int .i64 0, .bool false, .int .i64 0, .string ⟨#[]⟩]
  have hways : us = [] ∨ (∃ u, us = [u]) ∨ 2 ≤ us.length := by
    match us with
    | [] => exact .inl rfl
    | [u] => exact .inr (.inl ⟨u, rfl⟩)
    | _ :: _ :: _ => exact .inr (.inr (by simp))
  rcases hways with rfl | ⟨u, rfl⟩ | h2
  · go_enter Try.func67, Try.ntmps67
    go_wp2_with fail
    refine bodyPost_ret (node_ret rfl _ _ w.heap.size (Ta.mk 1 [] none 0 0 [] none 0 0 0 false 0 ⟨#[]⟩) rfl (Blk.new w _ _)) rfl ?_
    exact ⟨_, rfl, rfl, RT.of ⟨RdA.none_, by simp, by simp, by decide⟩ RdA.none_ (by simp), (Below.refl _ _).alloc (Nat.le_refl _) _⟩
  · obtain ⟨g, rfl, -, hg1, hg2⟩ := own_form hr.own (by simp)
    have hcell : ∀ q, q < 9 → (w.alloc (.cells #[.int .i64 0, .slice none 0 0, .int .i64 0, .slice none 0 0, .int .i64 0, .int .i64 0, .bool false, .int .i64 0, .string ⟨#[]⟩] 25)).cell? ⟨g, q, none⟩ = u.vals[q]? := fun q hq => by
      have h1 := rowT_get [u] 0 q u rfl hq
      rw [Nat.zero_mul, Nat.zero_add] at h1
      have h3 : q < u.vals.length := by rw [Ta.vals_length]; exact hq
      rw [List.getElem?_eq_getElem h3] at h1 ⊢
      exact (hba.cell (p := ⟨g, q, none⟩) hg2).trans (own_cell hr.own h1)
    have HU := Lib.hid (hr.els u (by simp))
    have hlt : (0 : Int) < (([u] : List Ta).length : Int) := by simp
    clear hr hb1 hba hre hn
    cases u with
    | mk k' r' ra' rc' a' l' sa' sc' n' m' z' i' s' =>
    simp only [Ta.vals] at hcell
    have c1 := hcell 0 (by omega)
    have c2 := hcell 1 (by omega)
    have c3 := hcell 2 (by omega)
    have c4 := hcell 3 (by omega)
    have c5 := hcell 4 (by omega)
    have c6 := hcell 5 (by omega)
    have c7 := hcell 6 (by omega)
    have c8 := hcell 7 (by omega)
    have c9 := hcell 8 (by omega)
    simp only [List.getElem?_cons_zero, List.getElem?_cons_succ] at c1 c2 c3 c4 c5 c6 c7 c8 c9
    clear hcell
    go_enter Try.func67, Try.ntmps67
    go_wp2_with fail
    refine bodyPost_ret (node_ret rfl _ _ w.heap.size (Ta.mk k' r' ra' rc' a' l' sa' sc' n' m' z' i' s') rfl (Blk.new w _ _)) rfl ?_
    exact ⟨_, rfl, rfl, (HU.out.fr_below ((Below.refl _ _).alloc (Nat.le_refl _) _)).fr_less (fun b hb => by simp at hb ⊢; rcases hb with h | h; exact .inl h; exact .inr (.inl h)), (Below.refl _ _).alloc (Nat.le_refl _) _⟩
  · have h0 : ((us.length : Int) == 0) = false := beq_eq_false_iff_ne.2 (by omega)
    have h1 : ((us.length : Int) == 1) = false := beq_eq_false_iff_ne.2 (by omega)
    have HR := Lib.hid hr
    have hrow : row (trs us) = catT (trs us) := by
      have := trs_length us
      match h : trs us with
      | [] => rw [h] at this; simp at this; omega
      | [x] => rw [h] at this; simp at this; omega
      | x :: y :: l => rfl
    have HROW := Lib.hid hrow
    clear hr hb1 hba hre hrow h2
    go_enter Try.func67, Try.ntmps67
    go_wp2_with fail
    have hb2 : Below w.heap.size w (w.alloc (.cells #[.int .i64 4, .slice none 0 0, .int .i64 0, .slice A us.length c, .int .i64 0, .int .i64 0, .bool false, .int .i64 0, .string ⟨#[]⟩] 25)) := (Below.refl _ _).alloc (Nat.le_refl _) _
    refine bodyPost_ret (node_ret rfl _ _ w.heap.size (Ta.mk 4 [] none 0 0 us A c 0 0 false 0 ⟨#[]⟩) rfl (Blk.new w _ _)) rfl ?_
    refine ⟨_, rfl, HROW.out.symm, RT.of ⟨RdA.none_, by simp, hn, by decide⟩ ?_ fun u hu => ((HR.out.els u hu).fr_below hb2).fr_less (fun b hb => by simp at hb ⊢; rcases hb with h | h; exact .inl h; exact .inr (.inl h)), hb2⟩
    obtain ⟨A', c', he, hra⟩ := RdA.of_own (L := X ++ [rb]) (own_lower (own_below HR.out.own hb2) hB) (fun b hb hm => by
      simp at hm
      rcases hm with hm | hm
      · have := hX b hm; have := (HR.out.own.lt b hb).1; omega
      · subst hm; exact HR.out.sep hb)
    cases he
    exact hra
end Go.Proofs.Ytfgelkfnbohmmaa
