/- Classes that calls made: what each is, known by what it holds. -/
import Derived.Test.YtgljhhlnnedmaaaDoorFold
import Derived.Test.YtgljhhlnnedmaaaDoorNegate
import Derived.Test.YtgljhhlnnedmaaaDoorNorm
namespace Go.Proofs.YtgljhhlnnedmaaaDoor
open Go.RowKit

/-- Ranges that read: where they lie. -/
structure RD where
  A : Option Addr
  n : Nat
  c : Nat
  C : List (Int × Int)
def RdOK (w : World) (L : List RD) : Prop := ∀ r ∈ L, Reads w w.heap.size 2 r.A r.n r.c (flat r.C) ∧ (r.A = none → r.c = 0)
theorem RdOK.nil {w : World} : RdOK w [] := fun _ h => by cases h
theorem RdOK.below {w w' : World} {L : List RD} (h : RdOK w L) (hb : Below w.heap.size w w') : RdOK w' L := fun r hr => ⟨((h r hr).1.below hb).more hb.size, (h r hr).2⟩
theorem RdOK.drewN {w : World} {L : List RD} (h : RdOK w L) (k : Nat) : RdOK (w.drewN k) L := fun r hr => ⟨(h r hr).1.drewN k, (h r hr).2⟩
theorem RdOK.add {w : World} {L : List RD} (h : RdOK w L) {base n c : Nat} {A : Option Addr} {C : List (Int × Int)} (ho : w.ownsRow base 55 2 (.slice A n c) n (flat C)) : RdOK w (L ++ [⟨A, n, c, C⟩]) := by
  intro r hr
  rcases List.mem_append.1 hr with hr | hr
  · exact h r hr
  · simp only [List.mem_singleton] at hr; subst hr
    refine ⟨Reads.of_own ho, fun hA => ?_⟩
    simp only [] at hA
    rcases ho.2 with ⟨h1, _⟩ | ⟨g, cap, cur, h1, _⟩
    · simp only [Value.slice.injEq] at h1; exact h1.2.2
    · simp only [Value.slice.injEq] at h1; rw [hA] at h1; cases h1.1

/-- What a class answers, told by its class. -/
theorem made_any {l : List (Int × Int)} {B : Nat} {w w' : World} {e : Ending} (h : ClassPost l B w e w') (hl : ∀ x ∈ l, inR x) :
    ∃ C, Cls C ∧ (∀ r, memB C r = true ↔ dom r = true ∧ memB l r = true) ∧ C.length ≤ (splitR l).length ∧ Below B w w' ∧
      ((5000 < C.length ∧ e = .returned (.tuple #[.slice none 0 0, .int .i64 3])) ∨ (C.length ≤ 5000 ∧ ∃ A c, e = .returned (.tuple #[.slice A C.length c, .int .i64 0]) ∧ w'.ownsRow B 55 2 (.slice A C.length c) C.length (flat C))) := by
  obtain ⟨S, hp, hs, hb, hif⟩ := h
  obtain ⟨h1, h2, h3⟩ := merge_cls hl hp hs
  refine ⟨mergeR S, h1, h2, h3, hb, ?_⟩
  split at hif
  · exact .inl ⟨‹_›, hif⟩
  · obtain ⟨v, rfl, ho⟩ := hif
    obtain ⟨A, c, rfl⟩ := own_shape ho
    exact .inr ⟨by omega, A, c, rfl, ho⟩
theorem made {l C : List (Int × Int)} {B : Nat} {w w' : World} {e : Ending} (h : ClassPost l B w e w') (hl : ∀ x ∈ l, inR x) (hC : Cls C) (hm : ∀ r, memB C r = true ↔ dom r = true ∧ memB l r = true) (hlen : C.length ≤ 5000) :
    ∃ A n c, C.length = n ∧ e = .returned (.tuple #[.slice A n c, .int .i64 0]) ∧ w'.ownsRow B 55 2 (.slice A n c) n (flat C) ∧ Below B w w' := by
  obtain ⟨D, h1, h2, _, hb, hor⟩ := made_any h hl
  obtain rfl : D = C := Cls.uniq h1 hC fun r => by rw [h2 r, hm r]
  rcases hor with ⟨h3, _⟩ | ⟨_, A, c, he, ho⟩
  · omega
  · exact ⟨A, _, c, rfl, he, ho, hb⟩
/-- What Norm answers. -/
theorem norm_made {l : List (Int × Int)} {B : Nat} {w w' : World} {e : Ending} (h : NormPost l B w e w') :
    Below B w w' ∧ ∃ (A : Option Addr) (n c : Nat) (k : Int), e = .returned (.tuple #[.slice A n c, .int .i64 k]) ∧
      ((k != 0) = true ∨ (k = 0 ∧ l.all okR = true ∧ ∃ C, Cls C ∧ C.length = n ∧ n ≤ 5000 ∧ (∀ r, memB C r = true ↔ dom r = true ∧ memB l r = true) ∧ w'.ownsRow B 55 2 (.slice A n c) n (flat C))) := by
  unfold NormPost at h
  cases hok : l.all okR with
  | false =>
    rw [hok] at h
    obtain ⟨rfl, hb⟩ := h
    exact ⟨hb, none, 0, 0, 10, rfl, .inl rfl⟩
  | true =>
    rw [hok] at h
    have hl : ∀ x ∈ l, inR x := fun x hx => by have := List.all_eq_true.1 hok x hx; unfold okR at this; unfold inR; exact of_decide_eq_true this
    obtain ⟨C, h1, h2, _, hb, hor⟩ := made_any h hl
    rcases hor with ⟨_, rfl⟩ | ⟨h3, A, c, rfl, ho⟩
    · exact ⟨hb, none, 0, 0, 3, rfl, .inl rfl⟩
    · exact ⟨hb, A, _, c, 0, rfl, .inr ⟨rfl, rfl, C, h1, rfl, h3, h2, ho⟩⟩
theorem norm_ok {l : List (Int × Int)} {B : Nat} {w w' : World} {e : Ending} (h : NormPost l B w e w') (hok : l.all okR = true) : ClassPost l B w e w' := by
  unfold NormPost at h; rw [hok] at h; exact h
theorem cls_ok {l : List (Int × Int)} (h : Cls l) : l.all okR = true := by
  rw [List.all_eq_true]
  intro x hx
  have := okx_iff.1 (h.1 x hx)
  unfold okR
  simp; omega
theorem okR_in {l : List (Int × Int)} (h : l.all okR = true) : ∀ x ∈ l, inR x := fun x hx => by have := List.all_eq_true.1 h x hx; unfold okR at this; unfold inR; exact of_decide_eq_true this
theorem cls_in {l : List (Int × Int)} (h : Cls l) : ∀ x ∈ l, inR x := fun x hx => inR_of (h.1 x hx)
/-- The whole domain. -/
def wholeR : List (Int × Int) := [(0, 55295), (57344, 1114111)]
theorem whole_cls : Cls wholeR := ⟨by decide, by unfold wholeR; simp⟩
theorem whole_mem (r : Int) : memB wholeR r = true ↔ dom r = true := by
  rw [memB_iff, dom_iff]
  unfold wholeR
  simp only [List.mem_cons, List.not_mem_nil, or_false]
  constructor
  · rintro ⟨x, rfl | rfl, h1, h2⟩ <;> (simp only [] at h1 h2; omega)
  · intro h
    by_cases c : r < 55296
    · exact ⟨_, .inl rfl, by simp only []; omega, by simp only []; omega⟩
    · exact ⟨_, .inr rfl, by simp only []; omega, by simp only []; omega⟩

/-! What the classes of the laws hold. -/
section
variable {a b n p : List (Int × Int)}
theorem mem_union (hC : ∀ r, memB p r = true ↔ dom r = true ∧ memB (a ++ b) r = true) (r : Int) : memB p r = true ↔ dom r = true ∧ memB (b ++ a) r = true := by
  rw [hC r, mem_append, mem_append, or_comm]
theorem mem_self (ha : Cls a) (r : Int) : memB a r = true ↔ dom r = true ∧ memB a r = true := ⟨fun h => ⟨ha.dom_ h, h⟩, fun h => h.2⟩
theorem mem_twice (ha : Cls a) (r : Int) : memB a r = true ↔ dom r = true ∧ memB (a ++ a) r = true := by
  rw [mem_append, or_self]; exact mem_self ha r
theorem mem_neg (ha : Cls a) (hn : ∀ r, memB n r = true ↔ dom r = true ∧ memB (negR a) r = true) (r : Int) : memB n r = true ↔ dom r = true ∧ ¬ memB a r = true := by rw [hn r, neg_mem ha r]
theorem mem_negneg (ha : Cls a) (hcn : Cls n) (hn : ∀ r, memB n r = true ↔ dom r = true ∧ memB (negR a) r = true) (r : Int) : memB a r = true ↔ dom r = true ∧ memB (negR n) r = true := by
  rw [neg_mem hcn r, mem_neg ha hn r]
  constructor
  · intro h; exact ⟨ha.dom_ h, fun h2 => h2.2 h⟩
  · rintro ⟨h1, h2⟩
    by_cases c : memB a r = true
    · exact c
    · exact absurd ⟨h1, c⟩ h2
theorem mem_fold (hp : ∀ r, memB p r = true ↔ dom r = true ∧ memB (foldR a) r = true) (r : Int) : memB p r = true ↔ dom r = true ∧ (memB a r = true ∨ memB a (otherR r) = true) := by rw [hp r, fold_mem]
theorem mem_foldfold (hp : ∀ r, memB p r = true ↔ dom r = true ∧ memB (foldR a) r = true) (r : Int) : memB p r = true ↔ dom r = true ∧ memB (foldR p) r = true := by
  rw [fold_mem, mem_fold hp r, mem_fold hp (otherR r), other_other, other_dom]
  constructor
  · rintro ⟨h1, h2⟩; exact ⟨h1, .inl ⟨h1, h2⟩⟩
  · rintro ⟨h1, ⟨_, h2⟩ | ⟨_, h2⟩⟩
    · exact ⟨h1, h2⟩
    · exact ⟨h1, h2.symm⟩
theorem mem_all (ha : Cls a) (hn : ∀ r, memB n r = true ↔ dom r = true ∧ memB (negR a) r = true) (r : Int) : memB wholeR r = true ↔ dom r = true ∧ memB (a ++ n) r = true := by
  rw [whole_mem, mem_append, mem_neg ha hn r]
  constructor
  · intro h
    refine ⟨h, ?_⟩
    by_cases c : memB a r = true
    · exact .inl c
    · exact .inr ⟨h, c⟩
  · exact fun h => h.1
theorem mem_whole (r : Int) : memB wholeR r = true ↔ dom r = true ∧ memB (negR []) r = true := by
  rw [whole_mem, neg_mem Cls.nil r]
  exact ⟨fun h => ⟨h, mem_nil⟩, fun h => h.1⟩
theorem mem_joined {x y : List (Int × Int)} (ha : ∀ r, memB a r = true ↔ dom r = true ∧ memB x r = true) (hb : ∀ r, memB b r = true ↔ dom r = true ∧ memB y r = true) (hp : ∀ r, memB p r = true ↔ dom r = true ∧ memB (a ++ b) r = true) (r : Int) :
    memB p r = true ↔ dom r = true ∧ memB (y ++ x) r = true := by
  rw [hp r, mem_append, mem_append, ha r, hb r]
  constructor
  · rintro ⟨h1, h | h⟩
    · exact ⟨h1, .inr h.2⟩
    · exact ⟨h1, .inl h.2⟩
  · rintro ⟨h1, h | h⟩
    · exact ⟨h1, .inr ⟨h1, h⟩⟩
    · exact ⟨h1, .inl ⟨h1, h⟩⟩
theorem in_union (ha : Cls a) (hb : Cls b) : ∀ x ∈ a ++ b, inR x := fun x hx => by
  rcases List.mem_append.1 hx with h | h
  · exact cls_in ha x h
  · exact cls_in hb x h
theorem in_fold (ha : Cls a) : ∀ x ∈ foldR a, inR x := fun x hx => inR_of (fold_ok ha.1 x hx)
theorem len_union (ha : Cls a) (hb : Cls b) : (splitR (a ++ b)).length = a.length + b.length := by
  rw [split_len, List.length_append]
  intro x hx
  rcases List.mem_append.1 hx with h | h
  · exact ha.1 x h
  · exact hb.1 x h
theorem len_neg (ha : Cls a) : (splitR (negR a)).length ≤ 2 * a.length + 2 := by
  have h1 := splitR_len (negR a)
  have h2 := neg_len ha
  omega
theorem len_fold (ha : Cls a) : (splitR (foldR a)).length ≤ a.length + 54 := by
  rw [split_len (fold_ok ha.1)]; exact fold_len ha
theorem ok_of {ok : Bool} {l : List (Int × Int)} {B : Nat} {w w' : World} {e : Ending} (h : ClsPost ok l B w e w') (ho : ok = true) : ClassPost l B w e w' := by
  unfold ClsPost at h; rw [ho] at h; exact h
end
end Go.Proofs.YtgljhhlnnedmaaaDoor
