/- Words for memory: a slice that reads as a list of values. No program here. -/
import Derived.WalkKit
import Derived.WalkSpells
import Derived.Below
import Derived.Laws.OwnMore
import Derived.Laws.BytesArg
import Derived.Deep.AppendLies
import Derived.Deep.Draws
import Derived.Lib.Hide
import Derived.Maps.AppendAt
namespace Go.Proofs.Yteiggbbljgkloaa
open Go.RowKit

theorem block_of_add (a : Addr) (n : Nat) : (a.add n).block = a.block := by unfold Addr.add; split <;> rfl
theorem add_of_add (a : Addr) (i j : Nat) : (a.add i).add j = a.add (i + j) := by
  unfold Addr.add
  by_cases hi : i = 0 <;> by_cases hj : j = 0 <;> simp [hi, hj, Nat.add_assoc]
theorem add_lit (b off j : Nat) : (⟨b, off, none⟩ : Addr).add j = ⟨b, off + j, none⟩ := by
  unfold Addr.add
  split <;> simp_all

theorem bdrewN {B : Nat} {a w : World} (h : Below B a w) (n : Nat) : Below B a (w.drewN n) := h.trans ⟨rfl, rfl, rfl, Nat.le_refl _, fun _ _ => rfl⟩

/-- The slice value '.slice A n c' reads as the cells xs, and lies below block B. -/
def Reads (w : World) (B size : Nat) (A : Option Addr) (n c : Nat) (xs : List Value) : Prop :=
  n ≤ c ∧ c ≤ 9223372036854775807 ∧ xs.length = n * size ∧ (0 < n → ∃ b off, A = some ⟨b, off, none⟩ ∧ b < B ∧ ∀ j u, xs[j]? = some u → w.cell? ⟨b, off + j, none⟩ = some u)

section
variable {w w' : World} {B B' size n c : Nat} {A : Option Addr} {xs : List Value}
theorem Reads.le (h : Reads w B size A n c xs) : n ≤ c := h.1
theorem Reads.cap (h : Reads w B size A n c xs) : c ≤ 9223372036854775807 := h.2.1
theorem Reads.len (h : Reads w B size A n c xs) : xs.length = n * size := h.2.2.1
theorem Reads.none_ : Reads w B size none 0 0 [] := ⟨Nat.le_refl _, by omega, by simp, fun h => absurd h (by omega)⟩
theorem Reads.at_ (h : Reads w B size A n c xs) (hn : 0 < n) : ∃ b off, A = some ⟨b, off, none⟩ ∧ b < B ∧ ∀ j u, xs[j]? = some u → w.cell? ⟨b, off + j, none⟩ = some u := h.2.2.2 hn
theorem Reads.cellAt {b off : Nat} (h : Reads w B size (some ⟨b, off, none⟩) n c xs) {j : Nat} {u : Value} (hu : xs[j]? = some u) : w.cell? ⟨b, off + j, none⟩ = some u := by
  have hj : j < xs.length := (List.getElem?_eq_some_iff.1 hu).1
  have hn : 0 < n := by
    rcases Nat.eq_zero_or_pos n with h0 | h0
    · rw [h.len, h0, Nat.zero_mul] at hj; omega
    · exact h0
  obtain ⟨b', off', e, _, hc⟩ := h.at_ hn
  simp only [Option.some.injEq, Addr.mk.injEq, and_true] at e
  obtain ⟨rfl, rfl⟩ := e
  exact hc j u hu
theorem Reads.lt {b off : Nat} (h : Reads w B size (some ⟨b, off, none⟩) n c xs) (hn : 0 < n) : b < B := by
  obtain ⟨b', off', e, hb, _⟩ := h.at_ hn
  simp only [Option.some.injEq, Addr.mk.injEq, and_true] at e
  obtain ⟨rfl, rfl⟩ := e
  exact hb
theorem Reads.keep (h : Reads w B size A n c xs) (hk : ∀ p : Addr, p.block < B → w'.cell? p = w.cell? p) : Reads w' B size A n c xs :=
  ⟨h.1, h.2.1, h.2.2.1, fun hn => by
    obtain ⟨b, off, e, hb, hc⟩ := h.at_ hn
    exact ⟨b, off, e, hb, fun j u hu => (hk ⟨b, off + j, none⟩ hb).trans (hc j u hu)⟩⟩
theorem Reads.more (h : Reads w B size A n c xs) (hB : B ≤ B') : Reads w B' size A n c xs :=
  ⟨h.1, h.2.1, h.2.2.1, fun hn => by
    obtain ⟨b, off, e, hb, hc⟩ := h.at_ hn
    exact ⟨b, off, e, by omega, hc⟩⟩
theorem Reads.below (h : Reads w B size A n c xs) (hb : Below B w w') : Reads w' B size A n c xs := h.keep fun _ hp => hb.cell hp
theorem Reads.drew (h : Reads w B size A n c xs) : Reads w.drew B size A n c xs := h
theorem Reads.drewN (h : Reads w B size A n c xs) (k : Nat) : Reads (w.drewN k) B size A n c xs := h
theorem Reads.alloc (h : Reads w B size A n c xs) (hB : B ≤ w.heap.size) (o : Obj) : Reads (w.alloc o) B size A n c xs := h.keep fun p hp => World.cell?_alloc_lt w o p (by omega)
theorem Reads.setCell (h : Reads w B size A n c xs) {p : Addr} (hB : B ≤ p.block) (u : Value) : Reads (w.setCell p u) B size A n c xs :=
  h.keep fun q hq => World.cell?_setCell_other w p q u (fun e => by subst e; omega)
theorem Reads.grown (h : Reads w B size A n c xs) {row : Option Nat} (hg : w.grownBy w' row) (hB : B ≤ w.heap.size) (hr : ∀ g, row = some g → B ≤ g) : Reads w' B size A n c xs :=
  h.keep fun p hp => World.cell?_of_block (hg.block p.block (by omega) (fun e => by have := hr _ e.symm; omega))
/-- '.. [k:h]' -/
theorem Reads.cut (h : Reads w B size A n c xs) {k l : Nat} (hk : k ≤ l) (hl : l ≤ n) :
    Reads w B size (if c = k then A else A.map (·.add (k * size))) (l - k) (c - k) ((xs.drop (k * size)).take ((l - k) * size)) := by
  have hm : l * size ≤ n * size := Nat.mul_le_mul_right _ hl
  have hnc := h.le
  have hcc := h.cap
  refine ⟨by omega, by omega, by rw [List.length_take, List.length_drop, h.len, Nat.sub_mul]; omega, fun hn => ?_⟩
  obtain ⟨b, off, rfl, hb, hcell⟩ := h.at_ (by omega)
  rw [if_neg (by omega)]
  refine ⟨b, off + k * size, by simp [add_lit], hb, fun j u hu => ?_⟩
  rw [Nat.add_assoc]
  refine hcell _ u ?_
  rw [List.getElem?_take] at hu
  split at hu
  · rw [← hu, List.getElem?_drop]
  · cases hu
/-- '.. [k:]' -/
theorem Reads.drop (h : Reads w B size A n c xs) {k : Nat} (hk : k ≤ n) :
    Reads w B size (if c = k then A else A.map (·.add (k * size))) (n - k) (c - k) (xs.drop (k * size)) := by
  have h1 := h.cut hk (Nat.le_refl n)
  rwa [List.take_of_length_le (by rw [List.length_drop, h.len, Nat.sub_mul]; omega)] at h1
/-- '.. [:k]' -/
theorem Reads.take (h : Reads w B size A n c xs) {k : Nat} (hk : k ≤ n) : Reads w B size A k c (xs.take (k * size)) := by
  have hkm : k * size ≤ n * size := Nat.mul_le_mul_right _ hk
  have hnc := h.le
  refine ⟨by omega, h.cap, by rw [List.length_take, h.len]; omega, fun hn => ?_⟩
  obtain ⟨b, off, rfl, hb, hcell⟩ := h.at_ (by omega)
  refine ⟨b, off, rfl, hb, fun j u hu => hcell j u ?_⟩
  rw [List.getElem?_take] at hu
  split at hu
  · exact hu
  · cases hu
theorem Reads.of_own {base : Nat} {e : TypeId} (h : w.ownsRow base e size (.slice A n c) n xs) : Reads w w.heap.size size A n c xs := by
  obtain ⟨hl, h2⟩ := h
  rcases h2 with ⟨h3, h4⟩ | ⟨g, cap, cur, hv, hg, hh, hnc, hcm, hcs, htk⟩
  · simp only [Value.slice.injEq] at h3
    obtain ⟨rfl, rfl, rfl⟩ := h3
    exact ⟨Nat.le_refl _, by omega, hl, fun h => absurd h (by omega)⟩
  · simp only [Value.slice.injEq, true_and] at hv
    obtain ⟨rfl, rfl⟩ := hv
    have hcm' : c ≤ 9223372036854775807 := by unfold maxLen at hcm; omega
    refine ⟨hnc, hcm', hl, fun hn => ⟨g, 0, rfl, (Array.getElem?_eq_some_iff.1 hh).1, fun j u hu => ?_⟩⟩
    have := World.ownsRow.cells (w := w) (base := base) (e := e) (size := size) (v := .slice (some ⟨g, 0, none⟩) n c) (n := n) (xs := xs) ⟨hl, .inr ⟨g, c, cur, rfl, hg, hh, hnc, hcm, hcs, htk⟩⟩ (g := g) rfl j u hu
    rwa [add_lit] at this
/-- 'string(b)' of bytes that are read. -/
theorem Reads.str {P : Program} {ns : List Int} (h : Reads w B 1 A n c (ns.map (Value.int .u8))) {src e dst : TypeId} (hs : P.underlying src = some (.slice e)) (he : P.underlying e = some (.int .u8)) (hd : P.underlying dst = some .string) :
    (convert src dst (.slice A n c)).run P w = .ok (.string (strOfNums ns)) w := by
  have hl := h.len
  simp only [List.length_map, Nat.mul_one] at hl
  rcases Nat.eq_zero_or_pos n with h0 | h0
  · subst h0
    obtain rfl : ns = [] := List.eq_nil_of_length_eq_zero hl
    cases A with
    | none => exact run_convert_bytes_nil w src e hs he 0 c dst hd
    | some a =>
      rw [run_convert_bytes_string w src dst e _ 0 c hs he hd, run_bytesToString w _ 0 c [] (by simp [loadCells, loadCellsFrom])]
      simp [strOfNums, ByteArray.empty, ByteArray.emptyWithCapacity]
      rfl
  · obtain ⟨b, off, rfl, _, hc⟩ := h.at_ h0
    refine run_convert_bytes_arg w src e hs he b off n c ns hl (fun i hi => hc i _ ?_) dst hd
    simp [List.getD, List.getElem?_eq_getElem (show i < ns.length by omega)]
/-- A literal slice is the call's own. -/
theorem own_lit (w : World) (base : Nat) (e : TypeId) (size k : Nat) (cs : Array Value) (xs : List Value) (hb : base ≤ w.heap.size) (hx : cs.toList = xs) (hl : xs.length = k * size) (hk : k ≤ 9223372036854775807) :
    (w.alloc (.cells cs e)).ownsRow base e size (.slice (some ⟨w.heap.size, 0, none⟩) k k) k xs := by
  refine ⟨hl, .inr ⟨w.heap.size, k, cs, rfl, hb, heap_alloc_new w _, Nat.le_refl _, by unfold maxLen; omega, ?_, ?_⟩⟩
  · rw [← hl, ← hx, Array.length_toList]
  · rw [hx, List.take_of_length_le (by omega)]
end
theorem below_grown {w w' : World} {B : Nat} (h : Below B w w') (hB : w.heap.size ≤ B) (row : Option Nat) : w.grownBy w' row := ⟨h.os, h.tape, h.output, h.size, fun k hk _ => h.block k (by omega)⟩
theorem grown_drewN {w w' : World} {row : Option Nat} (h : w.grownBy w' row) (n : Nat) : w.grownBy (w'.drewN n) row := h.trans ⟨rfl, rfl, rfl, Nat.le_refl _, fun _ _ _ => rfl⟩
theorem own_drewN {w : World} {base : Nat} {e : TypeId} {size : Nat} {v : Value} {n : Nat} {xs : List Value} (h : w.ownsRow base e size v n xs) (k : Nat) : (w.drewN k).ownsRow base e size v n xs := h
/-- What is owned stays owned where a call leaves all old blocks as they were. -/
theorem own_below {w w' : World} {base : Nat} {e : TypeId} {size : Nat} {v : Value} {n : Nat} {xs : List Value} (h : w.ownsRow base e size v n xs) (hb : Below w.heap.size w w') : w'.ownsRow base e size v n xs :=
  h.kept (below_grown hb (Nat.le_refl _) none) (by cases v.ownBlock <;> simp)
/-- Two owned rows lie apart. -/
def Apart (u v : Value) : Prop := u.ownBlock = none ∨ u.ownBlock ≠ v.ownBlock
theorem apart_symm {u v : Value} (h : Apart u v) : Apart v u := by
  unfold Apart at *
  cases hu : u.ownBlock with
  | none => cases hv : v.ownBlock with
    | none => exact .inl rfl
    | some b => exact .inr (by simp)
  | some a =>
    rw [hu] at h
    rcases h with h | h
    · cases h
    · exact .inr (Ne.symm h)
/-- Behind an append onto v, v' is apart from whatever v was apart from. -/
theorem apart_append {w : World} {u v v' : Value} {base : Nat} {e : TypeId} {size n : Nat} {xs : List Value} (h : Apart u v) (hu : w.ownsRow base e size u n xs) (hat : v'.ownBlock = v.ownBlock ∨ ∃ k, w.heap.size ≤ k ∧ v'.ownBlock = some k) : Apart u v' := by
  rcases hat with e1 | ⟨k, hk, e1⟩
  · unfold Apart at *; rw [e1]; exact h
  · unfold Apart
    rw [e1]
    cases hb : u.ownBlock with
    | none => exact .inl rfl
    | some a => exact .inr (by have := hu.lt a hb; simp; omega)

theorem byte_inj {a b : Int} (ha : 0 ≤ a ∧ a ≤ 255) (hb : 0 ≤ b ∧ b ≤ 255) (h : UInt8.ofNat a.toNat = UInt8.ofNat b.toNat) : a = b := by
  have := congrArg UInt8.toNat h
  simp at this
  omega
theorem bytes_inj : ∀ {xs ys : List Int}, (∀ b ∈ xs, 0 ≤ b ∧ b ≤ 255) → (∀ b ∈ ys, 0 ≤ b ∧ b ≤ 255) → (xs.map fun n => UInt8.ofNat n.toNat) = (ys.map fun n => UInt8.ofNat n.toNat) → xs = ys
  | [], [], _, _, _ => rfl
  | [], _ :: _, _, _, h => by simp at h
  | _ :: _, [], _, _, h => by simp at h
  | x :: xs, y :: ys, hx, hy, h => by
    simp only [List.map_cons, List.cons.injEq] at h
    rw [byte_inj (hx x (by simp)) (hy y (by simp)) h.1, bytes_inj (fun b hb => hx b (by simp [hb])) (fun b hb => hy b (by simp [hb])) h.2]
theorem str_inj {xs ys : List Int} (hx : ∀ b ∈ xs, 0 ≤ b ∧ b ≤ 255) (hy : ∀ b ∈ ys, 0 ≤ b ∧ b ≤ 255) (h : strOfNums xs = strOfNums ys) : xs = ys :=
  bytes_inj hx hy (by rw [← strOfNums_data, ← strOfNums_data, h])
theorem str_beq {xs ys : List Int} (hx : ∀ b ∈ xs, 0 ≤ b ∧ b ≤ 255) (hy : ∀ b ∈ ys, 0 ≤ b ∧ b ≤ 255) : ((strOfNums xs).toList == (strOfNums ys).toList) = (xs == ys) := by
  rw [ByteArray.toList_eq, ByteArray.toList_eq, Bool.eq_iff_iff, beq_iff_eq, beq_iff_eq, strOfNums_data, strOfNums_data]
  exact ⟨bytes_inj hx hy, fun h => by rw [h]⟩
end Go.Proofs.Yteiggbbljgkloaa
