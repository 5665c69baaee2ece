/- Rows of numbers that a call has made, one behind the other: each owned, no two in one place. -/
import Derived.Test.YtgljhhlnnedmaaaDoorOwnInts
namespace Go.Proofs.YtgljhhlnnedmaaaDoor
open Go.RowKit

structure Row where
  v : Value
  xs : List Int
def RowsOK (B : Nat) (w : World) (L : List Row) : Prop :=
  (∀ r ∈ L, w.ownsRow B 3 1 r.v r.xs.length (r.xs.map (Value.int .i64))) ∧ L.Pairwise fun a b => Apart a.v b.v
section
variable {B : Nat} {w w' : World} {L : List Row}
theorem RowsOK.nil : RowsOK B w [] := ⟨by simp, .nil⟩
theorem RowsOK.below (h : RowsOK B w L) (hb : Below w.heap.size w w') : RowsOK B w' L := ⟨fun r hr => own_below (h.1 r hr) hb, h.2⟩
theorem RowsOK.drewN (h : RowsOK B w L) (k : Nat) : RowsOK B (w.drewN k) L := ⟨fun r hr => own_drewN (h.1 r hr) k, h.2⟩
theorem RowsOK.grown (h : RowsOK B w L) {g : Nat} {t : TypeId} {cs : List Value} (hk : Blk w g t cs) (ht : 3 ≠ t) (hg : w.grownBy w' (some g)) : RowsOK B w' L :=
  ⟨fun r hr => (h.1 r hr).kept hg (.inr (Ne.symm (blk_apart (h.1 r hr) hk ht))), h.2⟩
theorem RowsOK.sub {L1 L2 : List Row} (h : RowsOK B w (L1 ++ L2)) : RowsOK B w L1 := ⟨fun r hr => h.1 r (List.mem_append_left _ hr), (List.pairwise_append.1 h.2).1⟩
theorem RowsOK.alloc (h : RowsOK B w L) (o : Obj) : RowsOK B (w.alloc o) L := ⟨fun r hr => (h.1 r hr).alloc o, h.2⟩
theorem own_base {base base' : Nat} {e : TypeId} {size : Nat} {v : Value} {n : Nat} {xs : List Value} (h : w.ownsRow base e size v n xs) (hb : base' ≤ base) : w.ownsRow base' e size v n xs :=
  ⟨h.1, h.2.imp id fun ⟨g, cap, cur, h1, h2, h3⟩ => ⟨g, cap, cur, h1, by omega, h3⟩⟩
theorem RowsOK.add (h : RowsOK B w L) (hB : B ≤ w.heap.size) (hb : Below w.heap.size w w') {u v : Value} {xs ys : List Int} (hu : w'.ownsRow w.heap.size 3 1 u xs.length (xs.map (Value.int .i64)))
    (hv : w'.ownsRow w.heap.size 3 1 v ys.length (ys.map (Value.int .i64))) (hap : Apart u v) : RowsOK B w' (L ++ [⟨u, xs⟩, ⟨v, ys⟩]) := by
  have h1 := h.below hb
  have far : ∀ r ∈ L, ∀ (z : Value) (zs : List Int), w'.ownsRow w.heap.size 3 1 z zs.length (zs.map (Value.int .i64)) → Apart r.v z := by
    intro r hr z zs hz
    unfold Apart
    cases hr1 : r.v.ownBlock with
    | none => exact .inl rfl
    | some a =>
      refine .inr fun e => ?_
      have ha := (h.1 r hr).lt a hr1
      have hz1 := hz.lt a e.symm
      omega
  refine ⟨fun r hr => ?_, ?_⟩
  · simp only [List.mem_append, List.mem_cons, List.not_mem_nil, or_false] at hr
    rcases hr with hr | rfl | rfl
    · exact h1.1 r hr
    · exact own_base hu hB
    · exact own_base hv hB
  · rw [List.pairwise_append]
    refine ⟨h.2, by simp [hap], fun a ha b hb => ?_⟩
    simp only [List.mem_cons, List.not_mem_nil, or_false] at hb
    rcases hb with rfl | rfl
    · exact far a ha u xs hu
    · exact far a ha v ys hv
theorem RowsOK.reads (h : RowsOK B w L) {A : Option Addr} {n c : Nat} {xs : List Int} (hr : (⟨.slice A n c, xs⟩ : Row) ∈ L) (hn : n = xs.length) : Reads w w.heap.size 1 A n c (xs.map (Value.int .i64)) := by
  have := h.1 _ hr
  simp only [] at this
  rw [← hn] at this
  exact Reads.of_own this
end

def vA : Value → Option Addr | .slice A _ _ => A | _ => none
def vC : Value → Nat | .slice _ _ c => c | _ => 0
/-- ownInts, over such rows. -/
theorem ownInts_rows (R B : Nat) (L : List Row) (w : World) (hK : L.length ≤ 64) (hN : ∀ r ∈ L, r.xs.length ≤ 2097152) (hb : B ≤ w.heap.size) (hR : Blk w R 29 (L.map (·.v))) (hO : RowsOK B w L) :
    Calls Tryd.prog 18 #[.slice (some ⟨R, 0, none⟩) L.length L.length] w fun e w' => e = .returned (.bool true) ∧ Below B w w' := by
  let d : Row := ⟨.slice none 0 0, []⟩
  let r : Rws := ⟨fun j => vA (L.getD j d).v, fun j => (L.getD j d).xs.length, fun j => vC (L.getD j d).v⟩
  have hmem : ∀ j, j < L.length → L.getD j d ∈ L := fun j hj => by
    rw [List.getD_eq_getElem?_getD, List.getElem?_eq_getElem hj]; exact List.getElem_mem hj
  have hv : ∀ j, j < L.length → r.v j = (L.getD j d).v := fun j hj => by
    obtain ⟨A, c, hs⟩ := own_shape (hO.1 _ (hmem j hj))
    show Value.slice (vA (L.getD j d).v) (L.getD j d).xs.length (vC (L.getD j d).v) = _
    rw [hs]; rfl
  have hrow : (List.range L.length).map r.v = L.map (·.v) := by
    apply List.ext_getElem?
    intro j
    by_cases hj : j < L.length
    · rw [rows_cell hj, List.getElem?_map, List.getElem?_eq_getElem hj, hv j hj, List.getD_eq_getElem?_getD, List.getElem?_eq_getElem hj]; rfl
    · rw [List.getElem?_eq_none (by simp; omega), List.getElem?_eq_none (by simp; omega)]
  have hap : ∀ a b, a < b → b < L.length → Apart (r.v a) (r.v b) := fun a b hab hbl => by
    rw [hv a (by omega), hv b hbl]
    have := List.pairwise_iff_getElem.1 hO.2 a b (by omega) hbl hab
    rw [List.getD_eq_getElem?_getD, List.getElem?_eq_getElem (show a < L.length by omega), List.getD_eq_getElem?_getD, List.getElem?_eq_getElem hbl]
    exact this
  refine ownInts_any L.length R B r (fun j => (L.getD j d).xs.map (Value.int .i64)) w hK (fun j hj => hN _ (hmem j hj)) hb (by rw [hrow]; exact hR) (fun j hj => by rw [hv j hj]; exact hO.1 _ (hmem j hj)) ?_
  intro a b ha hb hne
  rcases Nat.lt_or_gt_of_ne hne with h | h
  · exact hap a b h hb
  · exact apart_symm (hap b a h ha)
end Go.Proofs.YtgljhhlnnedmaaaDoor
