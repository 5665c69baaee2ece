/- What Encode answers. -/
import Derived.Test.YtgljhhlnnedmaaaDoorCut
import Derived.Test.YtgljhhlnnedmaaaDoorRefBytes
import Derived.Test.YtgljhhlnnedmaaaDoorLent
namespace Go.Proofs.YtgljhhlnnedmaaaDoor
open Go.RowKit

/-- The bytes of runes. -/
def encL (l : List Int) : List Int := l.flatMap encB
theorem encL_take {l : List Int} {i : Nat} {x : Int} (h : l[i]? = some x) : encL (l.take (i + 1)) = encL (l.take i) ++ encB x := by
  unfold encL
  rw [List.take_add_one, h]; simp
theorem encL_len (l : List Int) : (encL l).length ≤ 4 * l.length := by
  unfold encL
  induction l with
  | nil => simp
  | cons a t ih => have := encB_len a; simp only [List.flatMap_cons, List.length_append, List.length_cons]; omega

theorem encL_step {l : List Int} {i : Nat} {x : Int} {n : Nat} (h : l[i]? = some x) (hl : l.length = n) : encL (l.take (i + 1)) = encL (l.take i) ++ encB x ∧ (encL (l.take i)).length ≤ 4 * n := by
  refine ⟨encL_take h, ?_⟩
  have := encL_len (l.take i)
  rw [List.length_take] at this
  omega
theorem cells_new (w : World) (t : TypeId) (cs : Array Value) : ∀ j u, cs.toList[j]? = some u → (w.alloc (.cells cs t)).cell? ((⟨w.heap.size, 0, none⟩ : Addr).add j) = some u := by
  intro j u hu
  have := (Blk.new w t cs.toList).cell j
  rw [add_lit, Nat.zero_add]
  simpa using this.trans hu
theorem cells_new2 (w : World) (o : Obj) (t : TypeId) (cs : Array Value) : ∀ j u, cs.toList[j]? = some u → ((w.alloc o).alloc (.cells cs t)).cell? ((⟨w.heap.size + 1, 0, none⟩ : Addr).add j) = some u := by
  have := cells_new (w.alloc o) t cs
  simpa using this
theorem all_step {l : List Int} {k : Nat} {x : Int} (h : ∀ y ∈ l.take k, dom y = true) (hx : l[k]? = some x) (hd : dom x = true) : ∀ y ∈ l.take (k + 1), dom y = true := by
  intro y hy
  rw [List.take_add_one, hx] at hy
  simp only [Option.toList_some, List.mem_append, List.mem_singleton] at hy
  rcases hy with hy | rfl
  · exact h y hy
  · exact hd
theorem encL_bd {l : List Int} (h : ∀ r ∈ l, dom r = true) : ∀ b ∈ encL l, 0 ≤ b ∧ b ≤ 255 := by
  intro b hb
  unfold encL at hb
  obtain ⟨r, hr, hb⟩ := List.mem_flatMap.1 hb
  have := h r hr
  simp only [dom, decide_eq_true_eq] at this
  exact encB_bd this.1 this.2.1 b hb
theorem below_drew {B : Nat} {a w : World} (h : Below B a w) : Below B a w.drew := h.trans ⟨rfl, rfl, rfl, Nat.le_refl _, fun _ _ => rfl⟩
/-- What Encode answers: the bytes and the number of the error. -/
def EncodePost (l : List Int) (B : Nat) (w : World) (e : Ending) (w' : World) : Prop :=
  ∃ v k, e = .returned (.tuple #[v, .int .i64 k]) ∧ ((l.all dom = true ∧ k = 0 ∧ w'.ownsRow B 5 1 v (encL l).length ((encL l).map (Value.int .u8))) ∨ (l.all dom = false ∧ k = 10 ∧ v = .slice none 0 0)) ∧ Below B w w'

end Go.Proofs.YtgljhhlnnedmaaaDoor
