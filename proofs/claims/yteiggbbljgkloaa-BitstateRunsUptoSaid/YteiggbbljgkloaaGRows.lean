/- Rows of a call's own, one behind the other: each owned, no two in one place; for any element of one cell. No program here. -/
import Derived.Test.YteiggbbljgkloaaOwnG
namespace Go.Proofs.Yteiggbbljgkloaa.OwnG
open Go.RowKit

structure GRow where
  v : Value
  xs : List Value
def GRows (T : TypeId) (B : Nat) (w : World) (L : List GRow) : Prop :=
  (∀ r ∈ L, w.ownsRow B T 1 r.v r.xs.length r.xs) ∧ L.Pairwise fun a b => Apart a.v b.v
theorem own_base {w : World} {base base' : Nat} {e : TypeId} {size : Nat} {v : Value} {n : Nat} {xs : List Value} (h : w.ownsRow base e size v n xs) (hb : base' ≤ base) : w.ownsRow base' e size v n xs :=
  ⟨h.1, h.2.imp id fun ⟨g, cap, cur, h1, h2, h3⟩ => ⟨g, cap, cur, h1, by omega, h3⟩⟩
section
variable {T : TypeId} {B : Nat} {w w' : World} {L : List GRow}
theorem GRows.nil : GRows T B w [] := ⟨by simp, .nil⟩
theorem GRows.below (h : GRows T B w L) (hb : Below w.heap.size w w') : GRows T B w' L := ⟨fun r hr => own_below (h.1 r hr) hb, h.2⟩
theorem GRows.drew (h : GRows T B w L) : GRows T B w.drew L := ⟨fun r hr => own_drewN (h.1 r hr) 1, h.2⟩
theorem GRows.drewN (h : GRows T B w L) (k : Nat) : GRows T B (w.drewN k) L := ⟨fun r hr => own_drewN (h.1 r hr) k, h.2⟩
theorem GRows.grown (h : GRows T B w L) {g : Nat} {t : TypeId} {cs : List Value} (hk : Blk w g t cs) (ht : T ≠ t) (hg : w.grownBy w' (some g)) : GRows T B w' L :=
  ⟨fun r hr => (h.1 r hr).kept hg (.inr (Ne.symm (blk_apart (h.1 r hr) hk ht))), h.2⟩
theorem GRows.setBlk (h : GRows T B w L) {g : Nat} {t : TypeId} {cs : List Value} (hk : Blk w g t cs) (ht : T ≠ t) (i : Nat) (u : Value) : GRows T B (w.setCell ⟨g, i, none⟩ u) L :=
  h.grown hk ht ⟨rfl, rfl, rfl, by simp [World.setCell], fun k _ hne => Below.heap_setCell w ⟨g, i, none⟩ u k (fun e => hne (by simp at e; rw [e]))⟩
theorem GRows.sub {L1 L2 : List GRow} (h : GRows T B w (L1 ++ L2)) : GRows T B w L1 := ⟨fun r hr => h.1 r (List.mem_append_left _ hr), (List.pairwise_append.1 h.2).1⟩
theorem GRows.subl {L1 : List GRow} (h : GRows T B w L) (hs : L1.Sublist L) : GRows T B w L1 := ⟨fun r hr => h.1 r (hs.mem hr), h.2.sublist hs⟩
theorem GRows.alloc (h : GRows T B w L) (o : Obj) : GRows T B (w.alloc o) L := ⟨fun r hr => (h.1 r hr).alloc o, h.2⟩
theorem GRows.far (h : GRows T B w L) {r : GRow} (hr : r ∈ L) {z : Value} {n : Nat} {zs : List Value} (hz : w'.ownsRow w.heap.size T 1 z n zs) : Apart r.v z := by
  unfold Apart
  cases hr1 : r.v.ownBlock with
  | none => exact .inl rfl
  | some a =>
    refine .inr fun e => ?_
    have ha := (h.1 r hr).lt a hr1
    have hz1 := hz.lt a e.symm
    omega
/-- One row more. -/
theorem GRows.add (h : GRows T B w L) (hB : B ≤ w.heap.size) (hb : Below w.heap.size w w') {u : Value} {xs : List Value} (hu : w'.ownsRow w.heap.size T 1 u xs.length xs) : GRows T B w' (L ++ [⟨u, xs⟩]) := by
  have h1 := h.below hb
  refine ⟨fun r hr => ?_, ?_⟩
  · simp only [List.mem_append, List.mem_cons, List.not_mem_nil, or_false] at hr
    rcases hr with hr | rfl
    · exact h1.1 r hr
    · exact own_base hu hB
  · rw [List.pairwise_append]
    refine ⟨h.2, by simp, fun a ha b hb => ?_⟩
    simp only [List.mem_cons, List.not_mem_nil, or_false] at hb
    subst hb
    exact h.far ha hu
theorem GRows.reads (h : GRows T B w L) {A : Option Addr} {n c : Nat} {xs : List Value} (hr : (⟨.slice A n c, xs⟩ : GRow) ∈ L) (hn : n = xs.length) : Reads w w.heap.size 1 A n c xs := by
  have := h.1 _ hr
  simp only [] at this
  rw [← hn] at this
  exact Reads.of_own this
end

def vA : Value → Option Addr | .slice A _ _ => A | _ => none
def vC : Value → Nat | .slice _ _ c => c | _ => 0
/-- Such rows as the walk of an own.. function takes them. -/
theorem GRows.rws {T : TypeId} {B : Nat} {w : World} {L : List GRow} (hO : GRows T B w L) :
    ∃ r : Rws, (List.range L.length).map r.v = L.map (·.v) ∧ (∀ j, j < L.length → w.ownsRow B T 1 (r.v j) (r.N j) (L.getD j ⟨.slice none 0 0, []⟩).xs) ∧
      (∀ a b, a < L.length → b < L.length → a ≠ b → Apart (r.v a) (r.v b)) ∧ ∀ j, j < L.length → ∃ x ∈ L, r.N j = x.xs.length := by
  let d : GRow := ⟨.slice none 0 0, []⟩
  let r : Rws := ⟨fun j => vA (L.getD j d).v, fun j => (L.getD j d).xs.length, fun j => vC (L.getD j d).v⟩
  have hmem : ∀ j, j < L.length → L.getD j d ∈ L := fun j hj => by
    rw [List.getD_eq_getElem?_getD, List.getElem?_eq_getElem hj]; exact List.getElem_mem hj
  have hv : ∀ j, j < L.length → r.v j = (L.getD j d).v := fun j hj => by
    obtain ⟨A, c, hs⟩ := own_shape (hO.1 _ (hmem j hj))
    show Value.slice (vA (L.getD j d).v) (L.getD j d).xs.length (vC (L.getD j d).v) = _
    rw [hs]; rfl
  have hrow : (List.range L.length).map r.v = L.map (·.v) := by
    apply List.ext_getElem?
    intro j
    by_cases hj : j < L.length
    · rw [rows_cell hj, List.getElem?_map, List.getElem?_eq_getElem hj, hv j hj, List.getD_eq_getElem?_getD, List.getElem?_eq_getElem hj]; rfl
    · rw [List.getElem?_eq_none (by simp; omega), List.getElem?_eq_none (by simp; omega)]
  have hap : ∀ a b, a < b → b < L.length → Apart (r.v a) (r.v b) := fun a b hab hbl => by
    rw [hv a (by omega), hv b hbl]
    have := List.pairwise_iff_getElem.1 hO.2 a b (by omega) hbl hab
    rw [List.getD_eq_getElem?_getD, List.getElem?_eq_getElem (show a < L.length by omega), List.getD_eq_getElem?_getD, List.getElem?_eq_getElem hbl]
    exact this
  refine ⟨r, hrow, fun j hj => by rw [hv j hj]; exact hO.1 _ (hmem j hj), ?_, fun j hj => ⟨_, hmem j hj, rfl⟩⟩
  intro a b ha hb hne
  rcases Nat.lt_or_gt_of_ne hne with h | h
  · exact hap a b h hb
  · exact apart_symm (hap b a h ha)
end Go.Proofs.Yteiggbbljgkloaa.OwnG
