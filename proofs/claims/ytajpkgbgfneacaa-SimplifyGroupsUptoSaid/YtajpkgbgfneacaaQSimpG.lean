/- The groups of a tree and of its simple form. No program here. -/
import Derived.Test.YtajpkgbgfneacaaQSimp
namespace Go.Proofs.Ytajpkgbgfneacaa.Tr

abbrev Lab := Int × ByteArray
mutual
/-- The groups that stand where they count. -/
def occ : Tr → List Lab
  | .mk k _ _ l _ m _ i s => if k = 6 ∧ m = 0 then [] else (if k = 7 then [(i, s)] else []) ++ occs l
def occs : List Tr → List Lab
  | [] => []
  | t :: l => occ t ++ occs l
end
def hasG (acc : List Lab) (x : Lab) : Bool := acc.any fun y => decide (y.1 = x.1) && decide (y.2 = x.2)
theorem hasG_iff (acc : List Lab) (x : Lab) : hasG acc x = true ↔ x ∈ acc := by
  unfold hasG
  rw [List.any_eq_true]
  constructor
  · rintro ⟨y, hy, h⟩
    rw [Bool.and_eq_true, decide_eq_true_eq, decide_eq_true_eq] at h
    have : y = x := Prod.ext h.1 h.2
    exact this ▸ hy
  · intro h
    exact ⟨x, h, by simp⟩
def addG (acc : List Lab) (x : Lab) : List Lab := if hasG acc x then acc else acc ++ [x]
mutual
/-- .. each once. -/
def groupsS : Tr → List Lab → List Lab
  | .mk k _ _ l _ m _ i s, acc => if k = 6 ∧ m = 0 then acc else groupssS l (if k = 7 then addG acc (i, s) else acc)
def groupssS : List Tr → List Lab → List Lab
  | [], acc => acc
  | t :: l, acc => groupssS l (groupsS t acc)
end
theorem addG_mem (acc : List Lab) (x y : Lab) : y ∈ addG acc x ↔ y ∈ acc ∨ y = x := by
  unfold addG
  split
  · rename_i h
    constructor
    · exact .inl
    · rintro (h2 | rfl)
      · exact h2
      · exact (hasG_iff _ _).1 h
  · rw [List.mem_append, List.mem_singleton]
theorem addG_nodup {acc : List Lab} (h : acc.Nodup) (x : Lab) : (addG acc x).Nodup := by
  unfold addG
  split
  · exact h
  · rename_i hx
    rw [List.nodup_append]
    exact ⟨h, by simp, by intro a ha b hb; rw [List.mem_singleton] at hb; rintro rfl; exact hx ((hasG_iff _ _).2 (hb ▸ ha))⟩
theorem groupss_of (l : List Tr) (ih : ∀ s ∈ l, ∀ acc : List Lab, acc.Nodup → (groupsS s acc).Nodup ∧ ∀ y, y ∈ groupsS s acc ↔ y ∈ acc ∨ y ∈ occ s) :
    ∀ acc : List Lab, acc.Nodup → (groupssS l acc).Nodup ∧ ∀ y, y ∈ groupssS l acc ↔ y ∈ acc ∨ y ∈ occs l := by
  induction l with
  | nil => intro acc h; exact ⟨h, fun y => by simp [groupssS, occs]⟩
  | cons t l ihl =>
    intro acc h
    obtain ⟨h1, h2⟩ := ih t List.mem_cons_self acc h
    obtain ⟨h3, h4⟩ := ihl (fun s hs => ih s (List.mem_cons_of_mem _ hs)) _ h1
    rw [groupssS, occs]
    refine ⟨h3, fun y => ?_⟩
    rw [h4, h2, List.mem_append, or_assoc]
theorem groups_mem : ∀ (t : Tr) (acc : List Lab), acc.Nodup → (groupsS t acc).Nodup ∧ ∀ y, y ∈ groupsS t acc ↔ y ∈ acc ∨ y ∈ occ t := by
  intro t
  induction t using Tr.ind with
  | h t ih =>
    intro acc h
    cases t with
    | mk k r a l n m z i s =>
      rw [groupsS, occ]
      by_cases h0 : k = 6 ∧ m = 0
      · rw [if_pos h0, if_pos h0]
        exact ⟨h, by simp⟩
      rw [if_neg h0, if_neg h0]
      by_cases h7 : k = 7
      · rw [if_pos h7, if_pos h7]
        obtain ⟨h1, h2⟩ := groupss_of l ih _ (addG_nodup h (i, s))
        refine ⟨h1, fun y => ?_⟩
        rw [h2, addG_mem, List.mem_append, List.mem_singleton, or_assoc]
      · rw [if_neg h7, if_neg h7, List.nil_append]
        exact groupss_of l ih acc h
/-! ### of the simple form -/
theorem occs_append : ∀ a b : List Tr, occs (a ++ b) = occs a ++ occs b
  | [], b => rfl
  | t :: a, b => by rw [List.cons_append, occs, occs, occs_append a b, List.append_assoc]
theorem occ_row (l : List Tr) : occ (row l) = occs l := by
  match l with
  | [] => rfl
  | [x] => simp [row, occs]
  | a :: b :: l =>
    change occ (catT (a :: b :: l)) = _
    rw [catT, occ, if_neg (by decide), if_neg (by decide), List.nil_append]
theorem occ_cat (l : List Tr) : occ (catT l) = occs l := by rw [catT, occ, if_neg (by decide), if_neg (by decide), List.nil_append]
theorem occ_alt (l : List Tr) : occ (altT l) = occs l := by rw [altT, occ, if_neg (by decide), if_neg (by decide), List.nil_append]
theorem occ_rep (x : Tr) {n m : Int} {z : Bool} (hm : m ≠ 0) : occ (repT x n m z) = occ x := by
  rw [repT, occ, if_neg (by rintro ⟨_, h⟩; exact hm h), if_neg (by decide), List.nil_append, occs, occs, List.append_nil]
theorem occ_put {t : Tr} (h : allB t = true) : occs (putT t) = occ t := by
  cases kinds h with
  | empty => rfl
  | cat l _ _ => rw [occ_cat]; rfl
  | cls r hr => simp [putT, Tr.kind, occs]
  | ass a ha => simp [putT, Tr.kind, occs]
  | alt l _ _ => rw [show putT (altT l) = [altT l] from rfl, occs, occs, List.append_nil]
  | rep x n m z _ _ _ _ => rw [show putT (repT x n m z) = [repT x n m z] from rfl, occs, occs, List.append_nil]
  | group x i s _ _ _ _ => rw [show putT (groupT x i s) = [groupT x i s] from rfl, occs, occs, List.append_nil]
theorem occ_altPut {t : Tr} (h : allB t = true) : occs (altPut t) = occ t := by
  unfold altPut
  by_cases h5 : t.kind = 5
  · rw [if_pos h5]
    cases kinds h with
    | alt l _ _ => rw [occ_alt]; rfl
    | _ => cases h5
  · rw [if_neg h5, occs, occs, List.append_nil]
theorem occ_opt {y : Tr} (h : Good y) (lz : Bool) (u : Lab) : ∀ n, u ∈ occ (optS y lz n) ↔ 0 < n ∧ u ∈ occ y
  | 0 => by
    have e : occ emptyT = [] := rfl
    rw [optS, e]; simp
  | n + 1 => by
    have ih := occ_opt h lz u n
    rw [optS, occ_rep _ (by decide), occ_row, occs_append, occ_put h.1, occ_put (opt_good h lz n).1, List.mem_append, ih]
    constructor
    · rintro (h | h)
      · exact ⟨Nat.succ_pos _, h⟩
      · exact ⟨Nat.succ_pos _, h.2⟩
    · rintro ⟨_, h⟩
      exact .inl h
theorem occ_many {y : Tr} (h : Good y) (u : Lab) : ∀ n, u ∈ occs (List.replicate n (putT y)).flatten ↔ 0 < n ∧ u ∈ occ y
  | 0 => by simp [occs]
  | n + 1 => by
    rw [List.replicate_succ, List.flatten_cons, occs_append, occ_put h.1, List.mem_append, occ_many h u n]
    constructor
    · rintro (h | h)
      · exact ⟨Nat.succ_pos _, h⟩
      · exact ⟨Nat.succ_pos _, h.2⟩
    · rintro ⟨_, h⟩
      exact .inl h
theorem occ_unfold {y : Tr} (h : Good y) {mn mx : Int} (lz : Bool) (h0 : 0 ≤ mn) (hx : mx ≠ 0) (u : Lab) : u ∈ occ (unfoldS y mn mx lz) ↔ u ∈ occ y := by
  unfold unfoldS
  split
  · rw [occ_rep _ (by decide)]
  · split
    · rw [occ_row, occs_append, occ_put (rep_good h lz (.inr (.inl ⟨rfl, rfl⟩))).1, occ_rep _ (by decide), List.mem_append, occ_many h u]
      constructor
      · rintro (h | h)
        · exact h.2
        · exact h
      · exact .inr
    · rename_i hn hm2
      rw [occ_row, occs_append, occ_put (opt_good h lz _).1, List.mem_append, occ_many h u, occ_opt h lz u]
      constructor
      · rintro (h | h)
        · exact h.2
        · exact h.2
      · intro hu
        by_cases hp : 0 < mn
        · exact .inl ⟨by omega, hu⟩
        · exact .inr ⟨by omega, hu⟩
theorem occs_congr {l : List Tr} {f : Tr → List Tr} (u : Lab) (h : ∀ s ∈ l, u ∈ occs (f s) ↔ u ∈ occ s) : u ∈ occs (l.flatMap f) ↔ u ∈ occs l := by
  induction l with
  | nil => exact Iff.rfl
  | cons t l ih =>
    rw [List.flatMap_cons, occs_append, occs, List.mem_append, List.mem_append, h t List.mem_cons_self, ih fun s hs => h s (List.mem_cons_of_mem _ hs)]
theorem simple_occ : ∀ t : Tr, allB t = true → ∀ u, u ∈ occ (simpleS t) ↔ u ∈ occ t := by
  intro t
  induction t using Tr.ind with
  | h t ih =>
    intro h u
    have hl : ∀ l : List Tr, (∀ s ∈ l, u ∈ occ (simpleS s) ↔ u ∈ occ s) → (u ∈ occs (l.map simpleS) ↔ u ∈ occs l) := by
      intro l
      induction l with
      | nil => intro _; exact Iff.rfl
      | cons t l ihl =>
        intro hs
        rw [List.map_cons, occs, occs, List.mem_append, List.mem_append, hs t List.mem_cons_self, ihl fun s h => hs s (List.mem_cons_of_mem _ h)]
    cases kinds h with
    | empty => exact Iff.rfl
    | cls r hr => exact Iff.rfl
    | ass a ha => exact Iff.rfl
    | cat l h2 hs =>
      rw [catT, simpleS, simplesS_map, if_neg (by decide), if_pos rfl, occ_row, ← catT, occ_cat]
      rw [occs_congr u (fun s hs' => by obtain ⟨x, hx, rfl⟩ := List.mem_map.1 hs'; rw [occ_put (simple_good x (hs x hx)).1])]
      exact hl l fun s hs' => ih s hs' (hs s hs') u
    | alt l h2 hs =>
      rw [altT, simpleS, simplesS_map, if_neg (by decide), if_neg (by decide), if_pos rfl, occ_alt, ← altT, occ_alt]
      rw [occs_congr u (fun s hs' => by obtain ⟨x, hx, rfl⟩ := List.mem_map.1 hs'; rw [occ_altPut (simple_good x (hs x hx)).1])]
      exact hl l fun s hs' => ih s hs' (hs s hs') u
    | rep x n m z hx h0 h1 hm =>
      have hi := ih x List.mem_cons_self hx u
      rw [repT, simpleS, simplesS_map, if_neg (by decide), if_neg (by decide), if_neg (by decide), if_pos rfl]
      by_cases hm0 : m = 0
      · rw [if_pos hm0, occ, if_pos ⟨rfl, hm0⟩]; exact Iff.rfl
      · rw [if_neg hm0, ← repT, occ_rep _ hm0]
        simp only [List.map_cons, List.map_nil, List.headD_cons]
        rw [occ_unfold (simple_good x hx) z h0 hm0]
        exact hi
    | group x i s hx h0 h1 hm =>
      have hi := ih x List.mem_cons_self hx u
      rw [groupT, simpleS, simplesS_map, if_pos rfl]
      simp only [List.map_cons, List.map_nil, List.headD_cons, groupT]
      have e : ∀ y : Tr, occ (.mk 7 [] 0 [y] 0 0 false i s) = [(i, s)] ++ occ y := fun y => by
        rw [occ, if_neg (by rintro ⟨h, _⟩; cases h), if_pos rfl, occs, occs, List.append_nil]
      rw [e, e, List.mem_append, List.mem_append, hi]
/-- The same groups. -/
theorem groups_same {t : Tr} (h : allB t = true) : (groupsS t []).length = (groupsS (simpleS t) []).length ∧ ∀ x ∈ groupsS t [], x ∈ groupsS (simpleS t) [] := by
  obtain ⟨h1, h2⟩ := groups_mem t [] List.nodup_nil
  obtain ⟨h3, h4⟩ := groups_mem (simpleS t) [] List.nodup_nil
  have he : ∀ x, x ∈ groupsS t [] ↔ x ∈ groupsS (simpleS t) [] := fun x => by rw [h2, h4, simple_occ t h x]
  exact ⟨((List.perm_ext_iff_of_nodup h1 h3).2 he).length_eq, fun x hx => (he x).1 hx⟩
end Go.Proofs.Ytajpkgbgfneacaa.Tr
