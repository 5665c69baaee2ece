/- Rows of a call's own: each is written full with its mark, then each grows: the plain part, for any element of one cell. No program here. -/
import Derived.Test.YteiggbbljgkloaaMem3
namespace Go.Proofs.Yteiggbbljgkloaa.OwnG
open Go.RowKit

/-- Rows of numbers: where each lies, how long it is, its capacity. -/
structure Rws where
  A : Nat → Option Addr
  N : Nat → Nat
  C : Nat → Nat
def Rws.v (r : Rws) (j : Nat) : Value := .slice (r.A j) (r.N j) (r.C j)

/-- The rows j < K, each of its own; those before i are written full, of the i-th the first k. -/
def OI (T TT : TypeId) (mk : Nat → Value) (K R base : Nat) (r : Rws) (X : Nat → List Value) (w0 : World) (i k : Nat) (w : World) : Prop :=
  Blk w R TT ((List.range K).map r.v) ∧
  (∀ j, j < K → w.ownsRow base T 1 (r.v j) (r.N j) (if j < i then List.replicate (r.N j) (mk j) else if j = i then List.replicate k (mk i) ++ (X i).drop k else X j)) ∧
  Below base w0 w

theorem rows_cell {K i : Nat} {f : Nat → Value} (h : i < K) : ((List.range K).map f)[i]? = some (f i) := by simp [h]

section
variable {T TT : TypeId} {mk : Nat → Value} {K R base : Nat} {r : Rws} {X : Nat → List Value} {w0 w : World} {i k : Nat}
theorem OI.start (hR : Blk w R TT ((List.range K).map r.v)) (hO : ∀ j, j < K → w.ownsRow base T 1 (r.v j) (r.N j) (X j)) : OI T TT mk K R base r X w 0 0 w := by
  refine ⟨hR, fun j hj => ?_, Below.refl _ _⟩
  by_cases h : j = 0
  · subst h; simpa using hO 0 hj
  · simpa [h] using hO j hj
theorem OI.next (h : OI T TT mk K R base r X w0 i (r.N i) w) (hi : i < K) : OI T TT mk K R base r X w0 (i + 1) 0 w := by
  obtain ⟨h1, h2, h3⟩ := h
  refine ⟨h1, fun j hj => ?_, h3⟩
  have hj' := h2 j hj
  by_cases h : j < i
  · rw [if_pos h] at hj'; rw [if_pos (by omega)]; exact hj'
  · by_cases h' : j = i
    · subst h'
      rw [if_neg h, if_pos rfl] at hj'
      rw [if_pos (by omega)]
      have hl := hj'.1
      rw [List.length_append, List.length_replicate, List.length_drop] at hl
      rw [List.drop_eq_nil_of_le (by omega), List.append_nil] at hj'
      exact hj'
    · rw [if_neg h, if_neg h'] at hj'
      by_cases h'' : j = i + 1
      · subst h''; simpa using hj'
      · rw [if_neg (by omega), if_neg h'']; exact hj'
theorem OI.at_ (hTT : T ≠ TT) (h : OI T TT mk K R base r X w0 i k w) (hi : i < K) (hk : k < r.N i) :
    ∃ g, r.A i = some ⟨g, 0, none⟩ ∧ base ≤ g ∧ (∃ u, w.cell? ⟨g, k, none⟩ = some u) ∧ w.frozen? ⟨g, k, none⟩ = false ∧ g ≠ R := by
  have ho := h.2.1 i hi
  obtain ⟨g, hA, _, hb, hlt⟩ := own_form ho (by omega)
  have hne := blk_apart ho h.1 hTT
  unfold Rws.v at ho
  rw [hA] at ho
  refine ⟨g, hA, hb, ?_, ho.frozenAt k, ?_⟩
  · have hc := ho.cellAt k (by omega)
    have hl := ho.1
    rw [List.getElem?_eq_getElem (by omega)] at hc
    exact ⟨_, hc⟩
  · rintro rfl
    simp [Rws.v, hA, Value.ownBlock] at hne
theorem OI.step (hTT : T ≠ TT) (hap : ∀ a b, a < K → b < K → a ≠ b → Apart (r.v a) (r.v b)) (h : OI T TT mk K R base r X w0 i k w) (hi : i < K) (hk : k < r.N i) {g : Nat} (hA : r.A i = some ⟨g, 0, none⟩) :
    OI T TT mk K R base r X w0 i (k + 1) (w.setCell ⟨g, k, none⟩ (mk i)) := by
  obtain ⟨g', hA', hb, _, _, hne⟩ := h.at_ hTT hi hk
  obtain rfl : g = g' := by rw [hA] at hA'; simpa using hA'
  have ho := h.2.1 i hi
  have hv : r.v i = .slice (some ⟨g, 0, none⟩) (r.N i) (r.C i) := by unfold Rws.v; rw [hA]
  rw [hv] at ho
  have hst := ho.stored k (mk i)
  rw [if_neg (by omega), if_pos rfl] at hst ho
  refine ⟨h.1.far (p := ⟨g, k, none⟩) (Ne.symm hne) _, fun j hj => ?_, h.2.2.setCell (p := ⟨g, k, none⟩) hb _⟩
  by_cases hji : j = i
  · subst hji
    rw [if_neg (by omega), if_pos rfl, hv]
    have hl := ho.1
    rw [List.length_append, List.length_replicate, List.length_drop] at hl
    have e : (List.replicate k (mk j) ++ (X j).drop k).set k (mk j) = List.replicate (k + 1) (mk j) ++ (X j).drop (k + 1) := by
      rw [List.set_append_right _ _ (by simp), List.length_replicate, Nat.sub_self, List.drop_eq_getElem_cons (by omega), List.set_cons_zero, List.replicate_succ']
      simp
    rw [← e]
    exact hst.1
  · have hj' := h.2.1 j hj
    rw [if_neg hji] at hj' ⊢
    refine ownsRow_kept (v := r.v i) hj' ?_ (hap j i hj hi hji)
    rw [hv]
    exact hst.2
end

/-- Rows that grew: the j-th of them has M elements more than the j-th row; no other row lies where it lies. -/
def Grew (T : TypeId) (mk : Nat → Value) (M K base : Nat) (r : Rws) (w : World) (j : Nat) (g : Value) : Prop :=
  (∃ A c, g = .slice A (r.N j + M) c) ∧ w.ownsRow base T 1 g (r.N j + M) (List.replicate (r.N j + M) (mk j)) ∧ ∀ l, l < K → l ≠ j → Apart (r.v l) g

/-- The rows are full; the first i have grown; long holds of each the grown one (at 2 j + o) and the elder. -/
def OL (T TT : TypeId) (mk : Nat → Value) (M o K R base : Nat) (r : Rws) (w0 : World) (i : Nat) (long : Value) (gs : List Value) (w : World) : Prop :=
  Blk w R TT ((List.range K).map r.v) ∧ (∀ j, j < K → w.ownsRow base T 1 (r.v j) (r.N j) (List.replicate (r.N j) (mk j))) ∧
  (w.ownsRow base TT 1 long (2 * i) gs ∧ some R ≠ long.ownBlock) ∧ (∀ j, j < i → ∃ g, gs[2 * j + o]? = some g ∧ gs[2 * j + (1 - o)]? = some (r.v j) ∧ Grew T mk M K base r w j g) ∧ Below base w0 w

/-- .. and g has k elements more than the i-th row. -/
def OG (T TT : TypeId) (mk : Nat → Value) (M o K R base : Nat) (r : Rws) (w0 : World) (i : Nat) (long : Value) (gs : List Value) (k : Nat) (g : Value) (w : World) : Prop :=
  OL T TT mk M o K R base r w0 i long gs w ∧ (∃ A c, g = .slice A (r.N i + k) c) ∧ w.ownsRow base T 1 g (r.N i + k) (List.replicate (r.N i + k) (mk i)) ∧
  (∀ l, l < K → l ≠ i → Apart (r.v l) g) ∧ (∀ j, j < i → ∀ g', gs[2 * j + o]? = some g' → Apart g' g) ∧ ((r.v i).ownBlock = g.ownBlock ∨ Apart (r.v i) g)

section
variable {T TT : TypeId} {mk : Nat → Value} {M o K R base : Nat} {r : Rws} {X : Nat → List Value} {w0 w w' : World} {i k : Nat} {long g : Value} {gs : List Value}
theorem OL.start (h : OI T TT mk K R base r X w0 K 0 w) : OL T TT mk M o K R base r w0 0 (.slice none 0 0) [] w :=
  ⟨h.1, fun j hj => by have := h.2.1 j hj; rwa [if_pos hj] at this, ⟨World.ownsRow_nil _ _ _ _, by simp [Value.ownBlock]⟩, fun j hj => absurd hj (by omega), h.2.2⟩
theorem OG.start (hap : ∀ a b, a < K → b < K → a ≠ b → Apart (r.v a) (r.v b)) (h : OL T TT mk M o K R base r w0 i long gs w) (hi : i < K) : OG T TT mk M o K R base r w0 i long gs 0 (r.v i) w :=
  ⟨h, ⟨_, _, rfl⟩, h.2.1 i hi, fun l hl hne => hap l i hl hi hne, fun j hj g' hg' => by
    obtain ⟨g, hg, _, _, _, ha⟩ := h.2.2.2.1 j hj
    rw [hg] at hg'
    obtain rfl := Option.some.inj hg'
    exact apart_symm (ha i hi (by omega)), .inl rfl⟩
theorem Grew.kept {j : Nat} {v : Value} (h : Grew T mk M K base r w j g) (hg : w.grownBy w' v.ownBlock) (ha : Apart g v) : Grew T mk M K base r w' j g := ⟨h.1, ownsRow_kept h.2.1 hg ha, h.2.2⟩
theorem OG.step (hTT : T ≠ TT) (h : OG T TT mk M o K R base r w0 i long gs k g w) (hi : i < K) (hbase : base ≤ w.heap.size) {ob : Obj} {v' : Value} (ha : Appended base T 1 g v' (r.N i + k) 1 (List.replicate (r.N i + k) (mk i)) [mk i] (w.alloc ob) w') :
    OG T TT mk M o K R base r w0 i long gs (k + 1) v' w' ∧ Below base w0 w' := by
  obtain ⟨⟨hR, hO, ⟨hlo, hlr⟩, hgs, hbel⟩, ⟨A, c, hgv⟩, hgo, hal, haj, hown⟩ := h
  have hR1 := hR.alloc ob
  have hat : v'.ownBlock = g.ownBlock ∨ ∃ b, (w.alloc ob).heap.size ≤ b ∧ v'.ownBlock = some b := by
    rcases ha.at_ with h | h
    · exact .inl h
    · exact .inr ⟨_, Nat.le_refl _, h⟩
  have hlong : Apart long g := apart_types hlo hgo (Ne.symm hTT)
  have hb' : Below base w0 w' := (hbel.alloc hbase ob).grown ha.grown (by simp; omega) (fun b hb => (hgo.lt b hb).1)
  refine ⟨⟨⟨?_, fun j hj => ?_, ?_, fun j hj => ?_, hb'⟩, ?_, ?_, fun l hl hne => ?_, fun j hj g' hg' => ?_, ?_⟩, hb'⟩
  · exact hR1.grown ha.grown (blk_apart (hgo.alloc ob) hR1 hTT)
  · by_cases hji : j = i
    · subst hji
      rcases hown with h | h
      · exact own_prefix (by decide) ((hO j hj).alloc ob) (hgo.alloc ob) h (by omega) ha.keep
      · exact ownsRow_kept ((hO j hj).alloc ob) ha.grown h
    · exact ownsRow_kept ((hO j hj).alloc ob) ha.grown (hal j hj hji)
  · exact ⟨ownsRow_kept (hlo.alloc ob) ha.grown hlong, hlr⟩
  · obtain ⟨g', hg', hg2, h1, h2, h3⟩ := hgs j hj
    exact ⟨g', hg', hg2, h1, ownsRow_kept (h2.alloc ob) ha.grown (haj j hj g' hg'), h3⟩
  · rcases ha.own.2 with ⟨rfl, h0⟩ | ⟨b, cap, cur, rfl, _⟩
    · omega
    · exact ⟨_, _, rfl⟩
  · have := ha.own
    rw [← List.replicate_succ'] at this
    exact this
  · exact apart_append (hal l hl hne) ((hO l hl).alloc ob) hat
  · obtain ⟨g2, hg2, _, _, h2, _⟩ := hgs j hj
    rw [hg2] at hg'
    obtain rfl := Option.some.inj hg'
    exact apart_append (haj j hj _ hg2) (h2.alloc ob) hat
  · rcases hat with e | ⟨b, hb, e⟩
    · rcases hown with h | h
      · exact .inl (h.trans e.symm)
      · exact .inr (by unfold Apart at *; rw [e]; exact h)
    · refine .inr ?_
      unfold Apart
      rw [e]
      cases hv : (r.v i).ownBlock with
      | none => exact .inl rfl
      | some a => exact .inr (by have := (hO i hi).lt a hv; simp at hb; simp; omega)
theorem OL.next (hTT : T ≠ TT) (h : OG T TT mk M o K R base r w0 i long gs M g w) (hi : i < K) (hbase : base ≤ w.heap.size) {ob : Obj} {v' : Value} {news : List Value} (ho : (o = 0 ∧ news = [g, r.v i]) ∨ (o = 1 ∧ news = [r.v i, g]))
    (ha : Appended base TT 1 long v' (2 * i) 2 gs news (w.alloc ob) w') :
    OL T TT mk M o K R base r w0 (i + 1) v' (gs ++ news) w' := by
  obtain ⟨⟨hR, hO, ⟨hlo, hlr⟩, hgs, hbel⟩, hgv, hgo, hal, haj, hown⟩ := h
  have hlen : gs.length = 2 * i := by have := hlo.1; omega
  have hgr : w.grownBy w' long.ownBlock := (World.grownBy_alloc w ob _).trans ha.grown
  refine ⟨hR.grown hgr hlr, fun j hj => ?_, ⟨ha.own, ?_⟩, fun j hj => ?_, ?_⟩
  · exact ownsRow_kept (hO j hj) hgr (apart_types (hO j hj) hlo hTT)
  · rcases ha.at_ with e | e
    · rw [e]; exact hlr
    · rw [e]; have := hR.lt; simp; omega
  · rcases Nat.lt_or_ge j i with h | h
    · obtain ⟨g', hg', hg2, hG⟩ := hgs j h
      have l1 := (List.getElem?_eq_some_iff.1 hg').1
      have l2 := (List.getElem?_eq_some_iff.1 hg2).1
      exact ⟨g', by rw [List.getElem?_append_left l1]; exact hg', by rw [List.getElem?_append_left l2]; exact hg2, hG.kept hgr (apart_types hG.2.1 hlo hTT)⟩
    · obtain rfl : j = i := by omega
      refine ⟨g, ?_, ?_, hgv, ownsRow_kept hgo hgr (apart_types hgo hlo hTT), hal⟩
      · rw [List.getElem?_append_right (by omega), hlen, Nat.add_sub_cancel_left]
        rcases ho with ⟨rfl, rfl⟩ | ⟨rfl, rfl⟩ <;> rfl
      · rw [List.getElem?_append_right (by omega), hlen, Nat.add_sub_cancel_left]
        rcases ho with ⟨rfl, rfl⟩ | ⟨rfl, rfl⟩ <;> rfl
  · exact (hbel.alloc hbase ob).grown ha.grown (by simp; omega) (fun b hb => (hlo.lt b hb).1)
/-- What long holds at a place: a row of the mark of half the place. -/
theorem OL.at_ (ho : o = 0 ∨ o = 1) (h : OL T TT mk M o K R base r w0 K long gs w) {q : Nat} (hq : q < 2 * K) :
    ∃ A n c, gs[q]? = some (.slice A n c) ∧ w.ownsRow base T 1 (.slice A n c) n (List.replicate n (mk (q / 2))) ∧ n ≤ r.N (q / 2) + M := by
  obtain ⟨g, h1, h2, ⟨A, c, rfl⟩, h4, _⟩ := h.2.2.2.1 (q / 2) (by omega)
  by_cases e : q = 2 * (q / 2) + o
  · exact ⟨A, _, c, by rw [← h1, ← e], h4, Nat.le_refl _⟩
  · have e2 : q = 2 * (q / 2) + (1 - o) := by omega
    exact ⟨_, _, _, by rw [← e2] at h2; exact h2, h.2.1 (q / 2) (by omega), by omega⟩
end
end Go.Proofs.Yteiggbbljgkloaa.OwnG
