/- ownInts: numbers that came out are their owner's. -/
import Derived.Test.YtgljhhlnnedmaaaDoorProg
import Derived.Test.YtgljhhlnnedmaaaDoorMem3
import Derived.Test.YtgljhhlnnedmaaaDoorRunesPure
import Derived.WalkLawsBesides
import Derived.BigQuiet
import Derived.Deep.QuietTactic
import Derived.Handy
namespace Go.Proofs.YtgljhhlnnedmaaaDoor
open Go.RowKit

/-- Rows of numbers: where each lies, how long it is, its capacity. -/
structure Rws where
  A : Nat → Option Addr
  N : Nat → Nat
  C : Nat → Nat
def Rws.v (r : Rws) (j : Nat) : Value := .slice (r.A j) (r.N j) (r.C j)
def mk (i : Nat) : Value := .int .i64 (-1 - (i : Int))

/-- The rows j < K, each of its own; those before i are written full, of the i-th the first k. -/
def OI (K R base : Nat) (r : Rws) (X : Nat → List Value) (w0 : World) (i k : Nat) (w : World) : Prop :=
  Blk w R 29 ((List.range K).map r.v) ∧
  (∀ j, j < K → w.ownsRow base 3 1 (r.v j) (r.N j) (if j < i then List.replicate (r.N j) (mk j) else if j = i then List.replicate k (mk i) ++ (X i).drop k else X j)) ∧
  Below base w0 w

theorem rows_cell {K i : Nat} {f : Nat → Value} (h : i < K) : ((List.range K).map f)[i]? = some (f i) := by simp [h]

section
variable {K R base : Nat} {r : Rws} {X : Nat → List Value} {w0 w : World} {i k : Nat}
theorem OI.start (hR : Blk w R 29 ((List.range K).map r.v)) (hO : ∀ j, j < K → w.ownsRow base 3 1 (r.v j) (r.N j) (X j)) : OI K R base r X w 0 0 w := by
  refine ⟨hR, fun j hj => ?_, Below.refl _ _⟩
  by_cases h : j = 0
  · subst h; simpa using hO 0 hj
  · simpa [h] using hO j hj
theorem OI.next (h : OI K R base r X w0 i (r.N i) w) (hi : i < K) : OI K R base r X w0 (i + 1) 0 w := by
  obtain ⟨h1, h2, h3⟩ := h
  refine ⟨h1, fun j hj => ?_, h3⟩
  have hj' := h2 j hj
  by_cases h : j < i
  · rw [if_pos h] at hj'; rw [if_pos (by omega)]; exact hj'
  · by_cases h' : j = i
    · subst h'
      rw [if_neg h, if_pos rfl] at hj'
      rw [if_pos (by omega)]
      have hl := hj'.1
      rw [List.length_append, List.length_replicate, List.length_drop] at hl
      rw [List.drop_eq_nil_of_le (by omega), List.append_nil] at hj'
      exact hj'
    · rw [if_neg h, if_neg h'] at hj'
      by_cases h'' : j = i + 1
      · subst h''; simpa using hj'
      · rw [if_neg (by omega), if_neg h'']; exact hj'
theorem OI.at_ (h : OI K R base r X w0 i k w) (hi : i < K) (hk : k < r.N i) :
    ∃ g, r.A i = some ⟨g, 0, none⟩ ∧ base ≤ g ∧ (∃ u, w.cell? ⟨g, k, none⟩ = some u) ∧ w.frozen? ⟨g, k, none⟩ = false ∧ g ≠ R := by
  have ho := h.2.1 i hi
  obtain ⟨g, hA, _, hb, hlt⟩ := own_form ho (by omega)
  have hne := blk_apart ho h.1 (by decide)
  unfold Rws.v at ho
  rw [hA] at ho
  refine ⟨g, hA, hb, ?_, ho.frozenAt k, ?_⟩
  · have hc := ho.cellAt k (by omega)
    have hl := ho.1
    rw [List.getElem?_eq_getElem (by omega)] at hc
    exact ⟨_, hc⟩
  · rintro rfl
    simp [Rws.v, hA, Value.ownBlock] at hne
theorem OI.step (hap : ∀ a b, a < K → b < K → a ≠ b → Apart (r.v a) (r.v b)) (h : OI K R base r X w0 i k w) (hi : i < K) (hk : k < r.N i) {g : Nat} (hA : r.A i = some ⟨g, 0, none⟩) :
    OI K R base r X w0 i (k + 1) (w.setCell ⟨g, k, none⟩ (mk i)) := by
  obtain ⟨g', hA', hb, _, _, hne⟩ := h.at_ hi hk
  obtain rfl : g = g' := by rw [hA] at hA'; simpa using hA'
  have ho := h.2.1 i hi
  have hv : r.v i = .slice (some ⟨g, 0, none⟩) (r.N i) (r.C i) := by unfold Rws.v; rw [hA]
  rw [hv] at ho
  have hst := ho.stored k (mk i)
  rw [if_neg (by omega), if_pos rfl] at hst ho
  refine ⟨h.1.far (p := ⟨g, k, none⟩) (Ne.symm hne) _, fun j hj => ?_, h.2.2.setCell (p := ⟨g, k, none⟩) hb _⟩
  by_cases hji : j = i
  · subst hji
    rw [if_neg (by omega), if_pos rfl, hv]
    have hl := ho.1
    rw [List.length_append, List.length_replicate, List.length_drop] at hl
    have e : (List.replicate k (mk j) ++ (X j).drop k).set k (mk j) = List.replicate (k + 1) (mk j) ++ (X j).drop (k + 1) := by
      rw [List.set_append_right _ _ (by simp), List.length_replicate, Nat.sub_self, List.drop_eq_getElem_cons (by omega), List.set_cons_zero, List.replicate_succ']
      simp
    rw [← e]
    exact hst.1
  · have hj' := h.2.1 j hj
    rw [if_neg hji] at hj' ⊢
    refine ownsRow_kept (v := r.v i) hj' ?_ (hap j i hj hi hji)
    rw [hv]
    exact hst.2
end

/-- Rows that grew: the j-th of them has 40 elements more than the j-th row; no other row lies where it lies. -/
def Grew (K base : Nat) (r : Rws) (w : World) (j : Nat) (g : Value) : Prop :=
  (∃ A c, g = .slice A (r.N j + 40) c) ∧ w.ownsRow base 3 1 g (r.N j + 40) (List.replicate (r.N j + 40) (mk j)) ∧ ∀ l, l < K → l ≠ j → Apart (r.v l) g

/-- The rows are full; the first i have grown into gs, which long holds. -/
def OL (K R base : Nat) (r : Rws) (w0 : World) (i : Nat) (long : Value) (gs : List Value) (w : World) : Prop :=
  Blk w R 29 ((List.range K).map r.v) ∧ (∀ j, j < K → w.ownsRow base 3 1 (r.v j) (r.N j) (List.replicate (r.N j) (mk j))) ∧
  (w.ownsRow base 29 1 long i gs ∧ some R ≠ long.ownBlock) ∧ (∀ j, j < i → ∃ g, gs[j]? = some g ∧ Grew K base r w j g) ∧ Below base w0 w

/-- .. and g has k elements more than the i-th row. -/
def OG (K R base : Nat) (r : Rws) (w0 : World) (i : Nat) (long : Value) (gs : List Value) (k : Nat) (g : Value) (w : World) : Prop :=
  OL K R base r w0 i long gs w ∧ (∃ A c, g = .slice A (r.N i + k) c) ∧ w.ownsRow base 3 1 g (r.N i + k) (List.replicate (r.N i + k) (mk i)) ∧
  (∀ l, l < K → l ≠ i → Apart (r.v l) g) ∧ (∀ j, j < i → ∀ g', gs[j]? = some g' → Apart g' g) ∧ ((r.v i).ownBlock = g.ownBlock ∨ Apart (r.v i) g)

section
variable {K R base : Nat} {r : Rws} {X : Nat → List Value} {w0 w w' : World} {i k : Nat} {long g : Value} {gs : List Value}
theorem OL.start (h : OI K R base r X w0 K 0 w) : OL K R base r w0 0 (.slice none 0 0) [] w :=
  ⟨h.1, fun j hj => by have := h.2.1 j hj; rwa [if_pos hj] at this, ⟨World.ownsRow_nil _ _ _ _, by simp [Value.ownBlock]⟩, fun j hj => absurd hj (by omega), h.2.2⟩
theorem OG.start (hap : ∀ a b, a < K → b < K → a ≠ b → Apart (r.v a) (r.v b)) (h : OL K R base r w0 i long gs w) (hi : i < K) : OG K R base r w0 i long gs 0 (r.v i) w :=
  ⟨h, ⟨_, _, rfl⟩, h.2.1 i hi, fun l hl hne => hap l i hl hi hne, fun j hj g' hg' => by
    obtain ⟨g, hg, _, _, ha⟩ := h.2.2.2.1 j hj
    rw [hg] at hg'
    obtain rfl := Option.some.inj hg'
    exact apart_symm (ha i hi (by omega)), .inl rfl⟩
theorem Grew.kept {j : Nat} {v : Value} (h : Grew K base r w j g) (hg : w.grownBy w' v.ownBlock) (ha : Apart g v) : Grew K base r w' j g := ⟨h.1, ownsRow_kept h.2.1 hg ha, h.2.2⟩
theorem OG.step (h : OG K R base r w0 i long gs k g w) (hi : i < K) (hbase : base ≤ w.heap.size) {o : Obj} {v' : Value} (ha : Appended base 3 1 g v' (r.N i + k) 1 (List.replicate (r.N i + k) (mk i)) [mk i] (w.alloc o) w') :
    OG K R base r w0 i long gs (k + 1) v' w' ∧ Below base w0 w' := by
  obtain ⟨⟨hR, hO, ⟨hlo, hlr⟩, hgs, hbel⟩, ⟨A, c, hgv⟩, hgo, hal, haj, hown⟩ := h
  have hR1 := hR.alloc o
  have hat : v'.ownBlock = g.ownBlock ∨ ∃ b, (w.alloc o).heap.size ≤ b ∧ v'.ownBlock = some b := by
    rcases ha.at_ with h | h
    · exact .inl h
    · exact .inr ⟨_, Nat.le_refl _, h⟩
  have hlong : Apart long g := apart_types hlo hgo (by decide)
  have hb' : Below base w0 w' := (hbel.alloc hbase o).grown ha.grown (by simp; omega) (fun b hb => (hgo.lt b hb).1)
  refine ⟨⟨⟨?_, fun j hj => ?_, ?_, fun j hj => ?_, hb'⟩, ?_, ?_, fun l hl hne => ?_, fun j hj g' hg' => ?_, ?_⟩, hb'⟩
  · exact hR1.grown ha.grown (blk_apart (hgo.alloc o) hR1 (by decide))
  · by_cases hji : j = i
    · subst hji
      rcases hown with h | h
      · exact own_prefix (by decide) ((hO j hj).alloc o) (hgo.alloc o) h (by omega) ha.keep
      · exact ownsRow_kept ((hO j hj).alloc o) ha.grown h
    · exact ownsRow_kept ((hO j hj).alloc o) ha.grown (hal j hj hji)
  · exact ⟨ownsRow_kept (hlo.alloc o) ha.grown hlong, hlr⟩
  · obtain ⟨g', hg', h1, h2, h3⟩ := hgs j hj
    exact ⟨g', hg', h1, ownsRow_kept (h2.alloc o) ha.grown (haj j hj g' hg'), h3⟩
  · rcases ha.own.2 with ⟨rfl, h0⟩ | ⟨b, cap, cur, rfl, _⟩
    · omega
    · exact ⟨_, _, rfl⟩
  · have := ha.own
    rw [← List.replicate_succ'] at this
    exact this
  · exact apart_append (hal l hl hne) ((hO l hl).alloc o) hat
  · obtain ⟨g2, hg2, _, h2, _⟩ := hgs j hj
    rw [hg2] at hg'
    obtain rfl := Option.some.inj hg'
    exact apart_append (haj j hj _ hg2) (h2.alloc o) hat
  · rcases hat with e | ⟨b, hb, e⟩
    · rcases hown with h | h
      · exact .inl (h.trans e.symm)
      · exact .inr (by unfold Apart at *; rw [e]; exact h)
    · refine .inr ?_
      unfold Apart
      rw [e]
      cases hv : (r.v i).ownBlock with
      | none => exact .inl rfl
      | some a => exact .inr (by have := (hO i hi).lt a hv; simp at hb; simp; omega)
theorem OL.next (h : OG K R base r w0 i long gs 40 g w) (hi : i < K) (hbase : base ≤ w.heap.size) {o : Obj} {v' : Value} (ha : Appended base 29 1 long v' i 1 gs [g] (w.alloc o) w') :
    OL K R base r w0 (i + 1) v' (gs ++ [g]) w' := by
  obtain ⟨⟨hR, hO, ⟨hlo, hlr⟩, hgs, hbel⟩, hgv, hgo, hal, haj, hown⟩ := h
  have hlen : gs.length = i := by have := hlo.1; omega
  have hgr : w.grownBy w' long.ownBlock := (World.grownBy_alloc w o _).trans ha.grown
  refine ⟨hR.grown hgr hlr, fun j hj => ?_, ⟨ha.own, ?_⟩, fun j hj => ?_, ?_⟩
  · exact ownsRow_kept (hO j hj) hgr (apart_types (hO j hj) hlo (by decide))
  · rcases ha.at_ with e | e
    · rw [e]; exact hlr
    · rw [e]; have := hR.lt; simp; omega
  · rcases Nat.lt_or_ge j i with h | h
    · obtain ⟨g', hg', hG⟩ := hgs j h
      exact ⟨g', by rw [List.getElem?_append_left (by omega)]; exact hg', hG.kept hgr (apart_types hG.2.1 hlo (by decide))⟩
    · obtain rfl : j = i := by omega
      refine ⟨g, by rw [List.getElem?_append_right (by omega)]; simp [hlen], hgv, ownsRow_kept hgo hgr (apart_types hgo hlo (by decide)), hal⟩
  · exact (hbel.alloc hbase o).grown ha.grown (by simp; omega) (fun b hb => (hlo.lt b hb).1)
end
theorem info_int : (Tryd.prog.info? 3).map (fun i => (i.zero, i.size, i.bytes)) = some (some (.int .i64 0), 1, 8) := by kernel_rfl
theorem info_ints : (Tryd.prog.info? 29).map (fun i => (i.zero, i.size, i.bytes)) = some (some (.slice none 0 0), 1, 24) := by kernel_rfl
theorem row_cell {K R : Nat} {r : Rws} {w : World} (h : Blk w R 29 ((List.range K).map r.v)) {i : Nat} (hi : i < K) : w.cell? ⟨R, i, none⟩ = some (.slice (r.A i) (r.N i) (r.C i)) := by
  rw [h.cell, rows_cell hi]; rfl

set_option maxRecDepth 100000 in
set_option maxHeartbeats 2000000 in
theorem ownInts_any (K R base : Nat) (r : Rws) (X : Nat → List Value) (w : World) (hK : K ≤ 64) (hN : ∀ j, j < K → r.N j ≤ 2097152) (hb : base ≤ w.heap.size)
    (hR : Blk w R 29 ((List.range K).map r.v)) (hO : ∀ j, j < K → w.ownsRow base 3 1 (r.v j) (r.N j) (X j)) (hap : ∀ a b, a < K → b < K → a ≠ b → Apart (r.v a) (r.v b)) :
    Calls Tryd.prog 18 #[.slice (some ⟨R, 0, none⟩) K K] w fun e w' => e = .returned (.bool true) ∧ Below base w w' := by
  obtain ⟨i0, hi0, hz0, hz1, hz2⟩ := info_parts info_int
  obtain ⟨j0, hj0, jz0, jz1, jz2⟩ := info_parts info_ints
  have hst := OI.start hR hO
  have HN := Lib.hid hN
  have HAP := Lib.hid hap
  clear hR hO hN hap
  go_enter Tryd.func18, Tryd.ntmps18
  go_wp2_with fail
  go_loopw [3] (fun i wr => ∃ k : Nat, k ≤ K ∧ i = .int .i64 k ∧ OI K R base r X w k 0 wr) (fun i _ => K - (intOf i).toNat)
  case atStart => exact ⟨0, Nat.zero_le _, rfl, hst⟩
  case round =>
    obtain ⟨i, hiK, rfl, hoi⟩ := hrel
    by_cases hlt : i < K
    · -- the rows are written full
      obtain ⟨wo, hwo⟩ : ∃ wo : World, wo = wr := ⟨_, rfl⟩
      clear hwo
      go_wp2_with fail
      go_loopw [4] (fun q wq => ∃ k : Nat, k ≤ r.N i ∧ q = .int .i64 k ∧ OI K R base r X w i k wq) (fun q _ => r.N i - (intOf q).toNat)
      case atStart => exact ⟨0, Nat.zero_le _, rfl, hoi⟩
      case round =>
        obtain ⟨k, hkN, rfl, hoi⟩ := hrel
        rename_i wq
        have hcR := row_cell hoi.1 hlt
        have hNi := HN.out i hlt
        have HOI := Lib.hid hoi
        by_cases hk : k < r.N i
        · obtain ⟨g, hA, hbg, ⟨u, hcg⟩, hfg, hne⟩ := hoi.at_ hlt hk
          rw [hA] at hcR
          have HA := Lib.hid hA
          clear hA hoi hst
          go_wp2_with fail
          go_roundw
          case rel => exact ⟨k + 1, by omega, by go_num, HOI.out.step HAP.out hlt hk HA.out⟩
          case measure => simp [intOf]; omega
        · obtain rfl : k = r.N i := by omega
          have HNX := Lib.hid (hoi.next hlt)
          clear hoi hst
          go_wp2_with fail
          go_roundw
          case rel => exact ⟨i + 1, by omega, by go_num, HNX.out⟩
          case measure => simp [intOf]; omega
    · -- they grow
      obtain rfl : K = i := by omega
      have hol := OL.start hoi
      clear hoi hst hiK hlt
      go_wp2_with fail
      go_loopw [5, 6] (fun long p wq => ∃ (k : Nat) (gs : List Value), k ≤ K ∧ p = .int .i64 k ∧ OL K R base r w k long gs wq) (fun _ p _ => K - (intOf p).toNat)
      case atStart => exact ⟨0, [], Nat.zero_le _, rfl, hol⟩
      case round =>
        obtain ⟨q, gs, hq, rfl, hol⟩ := hrel
        by_cases hlt : q < K
        · have hcR := row_cell hol.1 hlt
          have hog := OG.start HAP.out hol hlt
          have hNq := HN.out q hlt
          obtain ⟨long, hlong⟩ : ∃ long, long = u5 := ⟨_, rfl⟩
          rw [← hlong] at hog
          clear hol
          go_wp2_with fail
          go_loopw [7, 8] (fun g p wq => ∃ k : Nat, k ≤ 40 ∧ p = .int .i64 k ∧ OG K R base r w q long gs k g wq) (fun _ p _ => 40 - (intOf p).toNat)
          case atStart => exact ⟨0, Nat.zero_le _, rfl, hog⟩
          case round =>
            obtain ⟨k, hk, rfl, hog⟩ := hrel
            have hbs : base ≤ wr.heap.size := Nat.le_trans hb hog.1.2.2.2.2.size
            have hgo := hog.2.2.1
            have HOG := Lib.hid hog
            clear hol
            by_cases hk4 : k < 40
            · clear hog
              go_wp2_with (at_builtin; refine wpList_append_keep _ rfl (.tmp 48) (.tmp 51) 29 rfl base 3 i0 (.int .i64 0) 1 8 Tryd.underlying29 hi0 hz0 hz1 hz2 rfl (by decide) u7 (r.N q + k) (List.replicate (r.N q + k) (mk q)) rfl (hgo.alloc _) ⟨wr.heap.size, 0, none⟩ 1 1 [.int .i64 (-1 - (q : Int))] rfl rfl (cell_one_new _ _ _) (by simp [Value.oneCell']) (by unfold maxLen; omega) (by omega) (by simp; omega) ?_; intro v1 w1 ha1)
              have hs := HOG.out.step hlt hbs ha1
              go_roundw
              case rel => exact ⟨k + 1, by omega, by go_num, hs.1⟩
              case measure => simp [intOf]; omega
            · obtain rfl : k = 40 := by omega
              obtain ⟨gA, gc, hg7⟩ := hog.2.1
              subst hg7
              have hlo := hog.1.2.2.1.1
              clear hog
              subst hlong
              go_wp2_with (at_builtin; refine wpList_append_keep _ rfl (.tmp 53) (.tmp 55) 35 rfl base 29 j0 (.slice none 0 0) 1 24 Tryd.underlying35 hj0 jz0 jz1 jz2 rfl (by decide) _ q gs rfl (hlo.alloc _) ⟨wr.heap.size, 0, none⟩ 1 1 [.slice gA (r.N q + 40) gc] rfl rfl (cell_one_new _ _ _) (by simp [Value.oneCell']) (by unfold maxLen; omega) (by omega) (by simp; omega) ?_; intro v1 w1 ha1)
              have hs := OL.next HOG.out hlt hbs ha1
              go_wp2_with fail
              go_roundw
              case rel => exact ⟨q + 1, _, by omega, by go_num, hs⟩
              case measure => simp [intOf]; omega
        · -- and all read so
          obtain rfl : K = q := by omega
          clear hlt hq
          have HOL := Lib.hid hol
          obtain ⟨LA, lc, hl5⟩ := own_shape hol.2.2.1.1
          subst hl5
          clear hol
          go_wp2_with fail
          go_loopw [9] (fun p wq => ∃ (k m : Nat), k ≤ K ∧ p = .int .i64 k ∧ wq = wr.drewN m) (fun p _ => K - (intOf p).toNat)
          case atStart => exact ⟨0, 0, Nat.zero_le _, rfl, rfl⟩
          case round =>
            obtain ⟨q, m, hq, rfl, rfl⟩ := hrel
            by_cases hlt : q < K
            · obtain ⟨gv, hgv, ⟨gA, gc, rfl⟩, hgo, _⟩ := HOL.out.2.2.2.1 q hlt
              have hlo := HOL.out.2.2.1.1
              obtain ⟨lg, rfl, _, _, _⟩ := own_form hlo (by omega)
              have hcL : wr.cell? ⟨lg, q, none⟩ = some (.slice gA (r.N q + 40) gc) := by rw [hlo.cellAt q (by omega), hgv]
              obtain ⟨ga, rfl, _, _, _⟩ := own_form hgo (by omega)
              have hNq := HN.out q hlt
              have HGO := Lib.hid hgo
              clear hgv hlo hgo
              go_wp2_with fail
              go_loopw [10] (fun p wq => ∃ (k m : Nat), k ≤ r.N q + 40 ∧ p = .int .i64 k ∧ wq = wr.drewN m) (fun p _ => r.N q + 40 - (intOf p).toNat)
              case atStart => exact ⟨0, m, Nat.zero_le _, rfl, rfl⟩
              case round =>
                obtain ⟨k, m', hk, rfl, rfl⟩ := hrel
                by_cases hkl : k < r.N q + 40
                · have hcg : wr.cell? ⟨ga, k, none⟩ = some (.int .i64 (-1 - (q : Int))) := by
                    rw [HGO.out.cellAt k (by omega), List.getElem?_replicate, if_pos hkl]; rfl
                  have hcR := row_cell HOL.out.1 hlt
                  have hne0 : ((-1 - (q : Int)) != (-1 - (q : Int))) = false := by simp
                  by_cases hkn : k < r.N q
                  · have hro := HOL.out.2.1 q hlt
                    obtain ⟨ra, hA, _, _, _⟩ := own_form hro (by omega)
                    have hcr : wr.cell? ⟨ra, k, none⟩ = some (.int .i64 (-1 - (q : Int))) := by
                      unfold Rws.v at hro
                      rw [hA] at hro
                      rw [hro.cellAt k (by omega), List.getElem?_replicate, if_pos hkn]; rfl
                    rw [hA] at hcR
                    have hd : decide ((k : Int) < (r.N q : Int)) = true := by simp; omega
                    clear hro hA
                    go_wp2_with fail
                    go_roundw
                    case rel => exact ⟨k + 1, _, by omega, by go_num, rfl⟩
                    case measure => simp [intOf]; omega
                  · have hd : decide ((k : Int) < (r.N q : Int)) = false := by simp; omega
                    have hd' : decide (k < r.N q) = false := by simp; omega
                    go_wp2_with fail
                    go_roundw
                    case rel => exact ⟨k + 1, _, by omega, by go_num, rfl⟩
                    case measure => simp [intOf]; omega
                · obtain rfl : k = r.N q + 40 := by omega
                  go_wp2_with fail
                  go_roundw
                  case rel => exact ⟨q + 1, _, by omega, by go_num, rfl⟩
                  case measure => simp [intOf]; omega
            · obtain rfl : K = q := by omega
              go_wp2_with fail
              go_ret
              exact ⟨rfl, bdrewN HOL.out.2.2.2.2 _⟩
end Go.Proofs.YtgljhhlnnedmaaaDoor
