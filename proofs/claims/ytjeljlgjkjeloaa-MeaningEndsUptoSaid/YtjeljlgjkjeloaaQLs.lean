/- From which place to which a tree leads, by what it is made of. No program here. -/
import Derived.Test.YtjeljlgjkjeloaaQEnds
import Derived.Test.YtjeljlgjkjeloaaQUfW
import Derived.Test.YtjeljlgjkjeloaaQTurned
import Derived.Test.YtjeljlgjkjeloaaQAwP
namespace Go.Proofs.Ytjeljlgjkjeloaa
open Go.Proofs.Ytjeljlgjkjeloaa.Tr Go.Proofs.Ytjeljlgjkjeloaa.Mach

/-- So often as one likes. -/
inductive Str (R : Nat → Nat → Prop) : Nat → Nat → Prop where
  | nil {i : Nat} : Str R i i
  | cons {i k j : Nat} : R i k → Str R k j → Str R i j
/-- So often. -/
def It (R : Nat → Nat → Prop) : Nat → Nat → Nat → Prop
  | 0, i, j => i = j
  | q + 1, i, j => ∃ k, R i k ∧ It R q k j
def reps (R : Nat → Nat → Prop) (n m : Int) (i j : Nat) : Prop := if m = -1 then ∃ q, n.toNat ≤ q ∧ It R q i j else ∃ q : Nat, n.toNat ≤ q ∧ (q : Int) ≤ m ∧ It R q i j
theorem It.add {R : Nat → Nat → Prop} : ∀ {p q i j : Nat}, It R (p + q) i j ↔ ∃ k, It R p i k ∧ It R q k j
  | 0, q, i, j => by rw [Nat.zero_add]; exact ⟨fun h => ⟨i, rfl, h⟩, fun ⟨k, h1, h2⟩ => by cases (show i = k from h1); exact h2⟩
  | p + 1, q, i, j => by
    rw [show p + 1 + q = (p + q) + 1 from by omega]
    constructor
    · rintro ⟨k, h1, h2⟩
      obtain ⟨k2, h3, h4⟩ := It.add.1 h2
      exact ⟨k2, ⟨k, h1, h3⟩, h4⟩
    · rintro ⟨k2, ⟨k, h1, h3⟩, h4⟩
      exact ⟨k, h1, It.add.2 ⟨k2, h3, h4⟩⟩
theorem str_it {R : Nat → Nat → Prop} {i j : Nat} : Str R i j ↔ ∃ q, It R q i j := by
  constructor
  · intro h
    induction h with
    | nil => exact ⟨0, rfl⟩
    | cons h1 _ ih => obtain ⟨q, hq⟩ := ih; exact ⟨q + 1, _, h1, hq⟩
  · rintro ⟨q, h⟩
    induction q generalizing i with
    | zero => cases (show i = j from h); exact .nil
    | succ q ih => obtain ⟨k, h1, h2⟩ := h; exact .cons h1 (ih h2)
theorem It.congr {R R' : Nat → Nat → Prop} (h : ∀ i j, R i j ↔ R' i j) : ∀ {q i j : Nat}, It R q i j ↔ It R' q i j
  | 0, _, _ => Iff.rfl
  | q + 1, i, j => ⟨fun ⟨k, h1, h2⟩ => ⟨k, (h _ _).1 h1, (It.congr h).1 h2⟩, fun ⟨k, h1, h2⟩ => ⟨k, (h _ _).2 h1, (It.congr h).2 h2⟩⟩
theorem reps_congr {R R' : Nat → Nat → Prop} (h : ∀ i j, R i j ↔ R' i j) {n m : Int} {i j : Nat} : reps R n m i j ↔ reps R' n m i j := by
  unfold reps
  split
  · exact ⟨fun ⟨q, h1, h2⟩ => ⟨q, h1, (It.congr h).1 h2⟩, fun ⟨q, h1, h2⟩ => ⟨q, h1, (It.congr h).2 h2⟩⟩
  · exact ⟨fun ⟨q, h1, h2, h3⟩ => ⟨q, h1, h2, (It.congr h).1 h3⟩, fun ⟨q, h1, h2, h3⟩ => ⟨q, h1, h2, (It.congr h).2 h3⟩⟩
section
variable (t : List Int)
mutual
/-- An unfolded form leads from a place to a place. -/
def LS : Us → Nat → Nat → Prop
  | .mk k r a _ _ l => fun i j =>
    if k = 1 then i = j
    else if k = 2 then i < t.length ∧ memB r (t.getD i 0) = true ∧ j = i + 1
    else if k = 3 then asB t i a = true ∧ i = j
    else if k = 4 then LSc l i j
    else if k = 5 then LSa l i j
    else if k = 7 then LSh l i j
    else if k = -1 then l ≠ [] ∧ (i = j ∨ LSh l i j)
    else if k = -2 then l ≠ [] ∧ Str (LSh l) i j
    else if k = -3 then ∃ m, LSh l i m ∧ Str (LSh l) m j
    else False
def LSc : List Us → Nat → Nat → Prop
  | [] => fun i j => i = j
  | s :: l => fun i j => ∃ m, LS s i m ∧ LSc l m j
def LSa : List Us → Nat → Nat → Prop
  | [] => fun _ _ => False
  | s :: l => fun i j => LS s i j ∨ LSa l i j
def LSh : List Us → Nat → Nat → Prop
  | [] => fun _ _ => False
  | s :: _ => fun i j => LS s i j
end
theorem ls_eq (u : Mean.Un) (i j : Nat) : LS t (shU u) i j ↔
    (if u.kind = 1 then i = j
    else if u.kind = 2 then i < t.length ∧ memB u.rng (t.getD i 0) = true ∧ j = i + 1
    else if u.kind = 3 then asB t i u.ast = true ∧ i = j
    else if u.kind = 4 then LSc t (shUs u.subs) i j
    else if u.kind = 5 then LSa t (shUs u.subs) i j
    else if u.kind = 7 then LSh t (shUs u.subs) i j
    else if u.kind = -1 then shUs u.subs ≠ [] ∧ (i = j ∨ LSh t (shUs u.subs) i j)
    else if u.kind = -2 then shUs u.subs ≠ [] ∧ Str (LSh t (shUs u.subs)) i j
    else if u.kind = -3 then ∃ m, LSh t (shUs u.subs) i m ∧ Str (LSh t (shUs u.subs)) m j
    else False) := by
  cases u with
  | mk ad k r a ix z l => rw [shU, LS]; exact Iff.rfl
variable {t}
theorem lsa_mem : ∀ {l : List Mean.Un} {i j : Nat}, LSa t (shUs l) i j ↔ ∃ s ∈ l, LS t (shU s) i j
  | [], i, j => by simp [shUs, LSa]
  | s :: l, i, j => by rw [shUs, LSa]; simp only []; rw [lsa_mem (l := l)]; simp
theorem shUs_ne {s : Mean.Un} {l : List Mean.Un} : shUs (s :: l) ≠ [] := by rw [shUs]; simp
mutual
theorem lead_ls : ∀ {n : Mean.Un} {i j : Nat}, Mean.Lead t n i j → LS t (shU n) i j
  | n, i, _, .empty h => by rw [ls_eq, if_pos h]
  | n, i, _, .cls h h1 h2 => by rw [ls_eq, if_neg (by rw [h]; decide), if_pos h]; exact ⟨h1, h2, rfl⟩
  | n, i, _, .ass h h1 => by rw [ls_eq, if_neg (by rw [h]; decide), if_neg (by rw [h]; decide), if_pos h]; exact ⟨h1, rfl⟩
  | n, i, j, .cat h h1 => by rw [ls_eq, if_neg (by rw [h]; decide), if_neg (by rw [h]; decide), if_neg (by rw [h]; decide), if_pos h]; exact leads_ls h1
  | n, i, j, .alt h hs h1 => by
    rw [ls_eq, if_neg (by rw [h]; decide), if_neg (by rw [h]; decide), if_neg (by rw [h]; decide), if_neg (by rw [h]; decide), if_pos h]
    exact lsa_mem.2 ⟨_, hs, lead_ls h1⟩
  | n, i, j, .grp h hs h1 => by
    rw [ls_eq, if_neg (by rw [h]; decide), if_neg (by rw [h]; decide), if_neg (by rw [h]; decide), if_neg (by rw [h]; decide), if_neg (by rw [h]; decide), if_pos h, hs, shUs, LSh]
    exact lead_ls h1
  | n, i, _, .skip h hs => by
    rw [ls_eq, if_neg (by rw [h]; decide), if_neg (by rw [h]; decide), if_neg (by rw [h]; decide), if_neg (by rw [h]; decide), if_neg (by rw [h]; decide), if_neg (by rw [h]; decide), if_pos h, hs]
    exact ⟨shUs_ne, .inl rfl⟩
  | n, i, j, .opt h hs h1 => by
    rw [ls_eq, if_neg (by rw [h]; decide), if_neg (by rw [h]; decide), if_neg (by rw [h]; decide), if_neg (by rw [h]; decide), if_neg (by rw [h]; decide), if_neg (by rw [h]; decide), if_pos h, hs]
    refine ⟨shUs_ne, .inr ?_⟩
    rw [shUs, LSh]
    exact lead_ls h1
  | n, i, j, .star h h1 => by
    rw [ls_eq, if_neg (by rw [h]; decide), if_neg (by rw [h]; decide), if_neg (by rw [h]; decide), if_neg (by rw [h]; decide), if_neg (by rw [h]; decide), if_neg (by rw [h]; decide), if_neg (by rw [h]; decide), if_pos h]
    obtain ⟨s, l, hs⟩ : ∃ s l, n.subs = s :: l := by cases h1 with | stop hs => exact ⟨_, _, hs⟩ | more hs _ _ => exact ⟨_, _, hs⟩
    exact ⟨by rw [hs]; exact shUs_ne, star_ls h1⟩
  | n, i, j, .plus h hs h1 h2 => by
    rw [ls_eq, if_neg (by rw [h]; decide), if_neg (by rw [h]; decide), if_neg (by rw [h]; decide), if_neg (by rw [h]; decide), if_neg (by rw [h]; decide), if_neg (by rw [h]; decide), if_neg (by rw [h]; decide), if_neg (by rw [h]; decide), if_pos h]
    refine ⟨_, ?_, star_ls h2⟩
    rw [hs, shUs, LSh]
    exact lead_ls h1
theorem leads_ls : ∀ {l : List Mean.Un} {i j : Nat}, Mean.Leads t l i j → LSc t (shUs l) i j
  | [], i, _, .nil => by rw [shUs, LSc]
  | s :: l, i, j, .cons h1 h2 => by rw [shUs, LSc]; exact ⟨_, lead_ls h1, leads_ls h2⟩
theorem star_ls : ∀ {n : Mean.Un} {i j : Nat}, Mean.Star t n i j → Str (LSh t (shUs n.subs)) i j
  | n, i, _, .stop _ => .nil
  | n, i, j, .more hs h1 h2 => .cons (by rw [hs, shUs, LSh]; exact lead_ls h1) (star_ls h2)
end
theorem ls_leads : ∀ {l : List Mean.Un}, (∀ s ∈ l, ∀ i j, LS t (shU s) i j → Mean.Lead t s i j) → ∀ {i j : Nat}, LSc t (shUs l) i j → Mean.Leads t l i j
  | [], _, i, j, h => by rw [shUs, LSc] at h; subst h; exact .nil
  | s :: l, hs, i, j, h => by
    rw [shUs, LSc] at h
    obtain ⟨m, h1, h2⟩ := h
    exact .cons (hs s List.mem_cons_self _ _ h1) (ls_leads (fun x hx => hs x (List.mem_cons_of_mem _ hx)) h2)
theorem ls_star {n s : Mean.Un} {l : List Mean.Un} (hn : n.subs = s :: l) (hs : ∀ i j, LS t (shU s) i j → Mean.Lead t s i j) {i j : Nat} (h : Str (LSh t (shUs n.subs)) i j) : Mean.Star t n i j := by
  induction h with
  | nil => exact .stop hn
  | cons h1 _ ih => rw [hn, shUs, LSh] at h1; exact .more hn (hs _ _ h1) ih
theorem ls_lead : ∀ (n : Mean.Un) (i j : Nat), LS t (shU n) i j → Mean.Lead t n i j := by
  intro n
  induction n using Mean.Un.ind with
  | h n ih =>
    intro i j h
    rw [ls_eq] at h
    by_cases k1 : n.kind = 1
    · rw [if_pos k1] at h; subst h; exact .empty k1
    rw [if_neg k1] at h
    by_cases k2 : n.kind = 2
    · rw [if_pos k2] at h; obtain ⟨h1, h2, rfl⟩ := h; exact .cls k2 h1 h2
    rw [if_neg k2] at h
    by_cases k3 : n.kind = 3
    · rw [if_pos k3] at h; obtain ⟨h1, rfl⟩ := h; exact .ass k3 h1
    rw [if_neg k3] at h
    by_cases k4 : n.kind = 4
    · rw [if_pos k4] at h; exact .cat k4 (ls_leads ih h)
    rw [if_neg k4] at h
    by_cases k5 : n.kind = 5
    · rw [if_pos k5] at h; obtain ⟨s, hs, h1⟩ := lsa_mem.1 h; exact .alt k5 hs (ih s hs _ _ h1)
    rw [if_neg k5] at h
    by_cases k7 : n.kind = 7
    · rw [if_pos k7] at h
      cases hs : n.subs with
      | nil => rw [hs, shUs, LSh] at h; exact h.elim
      | cons s l => rw [hs, shUs, LSh] at h; exact .grp k7 hs (ih s (by rw [hs]; simp) _ _ h)
    rw [if_neg k7] at h
    by_cases m1 : n.kind = -1
    · rw [if_pos m1] at h
      cases hs : n.subs with
      | nil => rw [hs, shUs] at h; exact absurd rfl h.1
      | cons s l =>
        rcases h.2 with h1 | h1
        · subst h1; exact .skip m1 hs
        · rw [hs, shUs, LSh] at h1; exact .opt m1 hs (ih s (by rw [hs]; simp) _ _ h1)
    rw [if_neg m1] at h
    by_cases m2 : n.kind = -2
    · rw [if_pos m2] at h
      cases hs : n.subs with
      | nil => rw [hs, shUs] at h; exact absurd rfl h.1
      | cons s l => exact .star m2 (ls_star hs (ih s (by rw [hs]; simp)) h.2)
    rw [if_neg m2] at h
    by_cases m3 : n.kind = -3
    · rw [if_pos m3] at h
      obtain ⟨m, h1, h2⟩ := h
      cases hs : n.subs with
      | nil => rw [hs, shUs, LSh] at h1; exact h1.elim
      | cons s l => exact .plus m3 hs (ih s (by rw [hs]; simp) _ _ (by rw [hs, shUs, LSh] at h1; exact h1)) (ls_star hs (ih s (by rw [hs]; simp)) h2)
    rw [if_neg m3] at h
    exact h.elim
theorem lead_iff (n : Mean.Un) (i j : Nat) : Mean.Lead t n i j ↔ LS t (shU n) i j := ⟨lead_ls, ls_lead n i j⟩
/-! ### repeats -/
theorem ls_loop {k : Int} {z : Bool} {x : Us} {i j : Nat} : LS t (loopU k z x) i j ↔ (if k = 1 then i = j
    else if k = 2 then i < t.length ∧ memB [] (t.getD i 0) = true ∧ j = i + 1
    else if k = 3 then asB t i 0 = true ∧ i = j
    else if k = 4 then LSc t [x] i j
    else if k = 5 then LSa t [x] i j
    else if k = 7 then LSh t [x] i j
    else if k = -1 then [x] ≠ [] ∧ (i = j ∨ LSh t [x] i j)
    else if k = -2 then [x] ≠ [] ∧ Str (LSh t [x]) i j
    else if k = -3 then ∃ m, LSh t [x] i m ∧ Str (LSh t [x]) m j
    else False) := by rw [loopU, LS]
theorem lsh_one {x : Us} {i j : Nat} : LSh t [x] i j ↔ LS t x i j := by rw [LSh]
theorem lsh_fun (x : Us) : LSh t [x] = LS t x := by funext i j; rw [LSh]
theorem ls_quest {z : Bool} {x : Us} {i j : Nat} : LS t (loopU (-1) z x) i j ↔ i = j ∨ LS t x i j := by
  rw [ls_loop]; simp [lsh_one]
theorem ls_star2 {z : Bool} {x : Us} {i j : Nat} : LS t (loopU (-2) z x) i j ↔ ∃ q, It (LS t x) q i j := by
  rw [ls_loop, ← str_it]; simp [lsh_fun]
theorem ls_plus {z : Bool} {x : Us} {i j : Nat} : LS t (loopU (-3) z x) i j ↔ ∃ q, 1 ≤ q ∧ It (LS t x) q i j := by
  rw [ls_loop, lsh_fun]
  simp only [Int.reduceNeg, Int.reduceEq, if_false, if_true]
  constructor
  · rintro ⟨m, h1, h2⟩
    obtain ⟨q, hq⟩ := str_it.1 h2
    exact ⟨q + 1, by omega, m, h1, hq⟩
  · rintro ⟨q, hq, h⟩
    cases q with
    | zero => omega
    | succ q => obtain ⟨m, h1, h2⟩ := h; exact ⟨m, h1, str_it.2 ⟨q, h2⟩⟩
theorem ls_cat {l : List Us} {i j : Nat} : LS t (catU l) i j ↔ LSc t l i j := by rw [catU, LS]; simp
theorem ls_empty {i j : Nat} : LS t emptyU i j ↔ i = j := by rw [emptyU, LS]; simp
theorem lsc_append : ∀ {a b : List Us} {i j : Nat}, LSc t (a ++ b) i j ↔ ∃ k, LSc t a i k ∧ LSc t b k j
  | [], b, i, j => by rw [List.nil_append]; exact ⟨fun h => ⟨i, by rw [LSc], h⟩, fun ⟨k, h1, h2⟩ => by rw [LSc] at h1; subst h1; exact h2⟩
  | s :: a, b, i, j => by
    rw [List.cons_append, LSc]
    constructor
    · rintro ⟨m, h1, h2⟩
      obtain ⟨k, h3, h4⟩ := lsc_append.1 h2
      exact ⟨k, by rw [LSc]; exact ⟨m, h1, h3⟩, h4⟩
    · rintro ⟨k, h1, h4⟩
      rw [LSc] at h1
      obtain ⟨m, h1, h3⟩ := h1
      exact ⟨m, h1, lsc_append.2 ⟨k, h3, h4⟩⟩
theorem lsc_rep {x : Us} : ∀ {q i j : Nat}, LSc t (List.replicate q x) i j ↔ It (LS t x) q i j
  | 0, i, j => by rw [List.replicate_zero, LSc]; exact Iff.rfl
  | q + 1, i, j => by
    rw [List.replicate_succ, LSc]
    exact ⟨fun ⟨m, h1, h2⟩ => ⟨m, h1, lsc_rep.1 h2⟩, fun ⟨m, h1, h2⟩ => ⟨m, h1, lsc_rep.2 h2⟩⟩
theorem lsc_one {x : Us} {i j : Nat} : LSc t [x] i j ↔ LS t x i j := by
  rw [LSc]
  exact ⟨fun ⟨m, h1, h2⟩ => by rw [LSc] at h2; subst h2; exact h1, fun h => ⟨j, h, by rw [LSc]⟩⟩
theorem ls_opt {z : Bool} {x : Us} : ∀ {n i j : Nat}, LS t (optU z x n) i j ↔ ∃ q, q ≤ n + 1 ∧ It (LS t x) q i j
  | 0, i, j => by
    rw [optU, ls_quest]
    constructor
    · rintro (h | h)
      · exact ⟨0, by omega, h⟩
      · exact ⟨1, by omega, j, h, rfl⟩
    · rintro ⟨q, hq, h⟩
      rcases (show q = 0 ∨ q = 1 from by omega) with rfl | rfl
      · exact .inl h
      · obtain ⟨k, h1, h2⟩ := h; cases (show k = j from h2); exact .inr h1
  | n + 1, i, j => by
    rw [optU, ls_quest, ls_cat, LSc]
    constructor
    · rintro (h | ⟨m, h1, h2⟩)
      · exact ⟨0, by omega, h⟩
      · obtain ⟨q, hq, h3⟩ := ls_opt.1 (lsc_one.1 h2)
        exact ⟨q + 1, by omega, m, h1, h3⟩
    · rintro ⟨q, hq, h⟩
      cases q with
      | zero => exact .inl h
      | succ q =>
        obtain ⟨m, h1, h2⟩ := h
        exact .inr ⟨m, h1, lsc_one.2 (ls_opt.2 ⟨q, by omega, h2⟩)⟩
theorem ls_rep {x : Us} {n m : Int} {z : Bool} {i j : Nat} (hn : 0 ≤ n) (hm : m = -1 ∨ n ≤ m) : LS t (repU x n m z) i j ↔ reps (LS t x) n m i j := by
  unfold repU reps
  by_cases h1 : m = -1
  · rw [if_pos h1, if_pos h1]
    by_cases h0 : n = 0
    · subst h0
      rw [if_pos rfl, ls_star2]
      exact ⟨fun ⟨q, h⟩ => ⟨q, by simp, h⟩, fun ⟨q, _, h⟩ => ⟨q, h⟩⟩
    · rw [if_neg h0, ls_cat, lsc_append]
      constructor
      · rintro ⟨k, h2, h3⟩
        obtain ⟨q, hq, h4⟩ := ls_plus.1 (lsc_one.1 h3)
        exact ⟨(n - 1).toNat + q, by omega, It.add.2 ⟨k, lsc_rep.1 h2, h4⟩⟩
      · rintro ⟨q, hq, h⟩
        obtain ⟨p, rfl⟩ : ∃ p, q = (n - 1).toNat + p := ⟨q - (n - 1).toNat, by omega⟩
        obtain ⟨k, h2, h3⟩ := It.add.1 h
        exact ⟨k, lsc_rep.2 h2, lsc_one.2 (ls_plus.2 ⟨p, by omega, h3⟩)⟩
  · rw [if_neg h1, if_neg h1]
    have hm2 : n ≤ m := hm.resolve_left h1
    by_cases h2 : n.toNat = 0 ∧ ¬ n < m
    · rw [if_pos h2, ls_empty]
      constructor
      · intro h; exact ⟨0, by omega, by omega, h⟩
      · rintro ⟨q, h3, h4, h⟩
        obtain rfl : q = 0 := by omega
        exact h
    · rw [if_neg h2, ls_cat, lsc_append]
      by_cases h3 : n < m
      · rw [if_pos h3]
        constructor
        · rintro ⟨k, h4, h5⟩
          obtain ⟨q, hq, h6⟩ := ls_opt.1 (lsc_one.1 h5)
          exact ⟨n.toNat + q, by omega, by omega, It.add.2 ⟨k, lsc_rep.1 h4, h6⟩⟩
        · rintro ⟨q, h4, h5, h⟩
          obtain ⟨p, rfl⟩ : ∃ p, q = n.toNat + p := ⟨q - n.toNat, by omega⟩
          obtain ⟨k, h6, h7⟩ := It.add.1 h
          exact ⟨k, lsc_rep.2 h6, lsc_one.2 (ls_opt.2 ⟨p, by omega, h7⟩)⟩
      · rw [if_neg h3]
        constructor
        · rintro ⟨k, h4, h5⟩
          rw [LSc] at h5
          subst h5
          exact ⟨n.toNat, by omega, by omega, lsc_rep.1 h4⟩
        · rintro ⟨q, h4, h5, h⟩
          obtain rfl : q = n.toNat := by omega
          exact ⟨j, lsc_rep.2 h, by rw [LSc]⟩
variable (t)
mutual
/-- A tree leads from a place to a place. -/
def LT : Tr.Tr → Nat → Nat → Prop
  | .mk k r a l n m _ _ _ => fun i j =>
    if k = 1 then i = j
    else if k = 2 then i < t.length ∧ memB r (t.getD i 0) = true ∧ j = i + 1
    else if k = 3 then asB t i a = true ∧ i = j
    else if k = 4 then LTc l i j
    else if k = 5 then LTa l i j
    else if k = 7 then LTh l i j
    else if k = 6 then reps (LTh l) n m i j
    else False
def LTc : List Tr.Tr → Nat → Nat → Prop
  | [] => fun i j => i = j
  | s :: l => fun i j => ∃ m, LT s i m ∧ LTc l m j
def LTa : List Tr.Tr → Nat → Nat → Prop
  | [] => fun _ _ => False
  | s :: l => fun i j => LT s i j ∨ LTa l i j
def LTh : List Tr.Tr → Nat → Nat → Prop
  | [] => fun _ _ => False
  | s :: _ => fun i j => LT s i j
end
variable {t}
theorem lt_sub : ∀ {l : List Tr.Tr}, (∀ s ∈ l, ∀ i j, LS t (unfS s) i j ↔ LT t s i j) → ∀ {i j : Nat}, (LSc t (unfSs l) i j ↔ LTc t l i j) ∧ (LSa t (unfSs l) i j ↔ LTa t l i j)
  | [], _, i, j => by rw [unfSs, LSc, LSa, LTc, LTa]; exact ⟨Iff.rfl, Iff.rfl⟩
  | s :: l, h, i, j => by
    have hs := h s List.mem_cons_self
    have hl := fun {i j : Nat} => lt_sub (fun x hx => h x (List.mem_cons_of_mem _ hx)) (i := i) (j := j)
    rw [unfSs, LSc, LSa, LTc, LTa]
    exact ⟨⟨fun ⟨m, h1, h2⟩ => ⟨m, (hs _ _).1 h1, hl.1.1 h2⟩, fun ⟨m, h1, h2⟩ => ⟨m, (hs _ _).2 h1, hl.1.2 h2⟩⟩, or_congr (hs _ _) hl.2⟩
theorem ls_lt : ∀ (s : Tr.Tr), allB s = true → ∀ i j, LS t (unfS s) i j ↔ LT t s i j := by
  intro s
  induction s using Tr.ind with
  | h s ih =>
    intro hall i j
    obtain ⟨hnb, hsb⟩ := (allB_iff _).1 hall
    cases s with
    | mk k r a l n m z ix nm =>
      have ih' : ∀ x ∈ l, ∀ i j, LS t (unfS x) i j ↔ LT t x i j := fun x hx => ih x hx (hsb x hx)
      have hlt := fun {i j : Nat} => lt_sub ih' (i := i) (j := j)
      unfold nodeB nodeF at hnb
      rw [unfS, LT]
      by_cases k6 : k = 6
      · subst k6
        simp only [reduceIte, Int.reduceEq, Bool.and_eq_true, Bool.or_eq_true, decide_eq_true_eq, beq_iff_eq] at hnb
        obtain ⟨-, hl1, hn0, -, hmx⟩ := hnb
        obtain ⟨x, rfl⟩ := List.length_eq_one_iff.1 hl1
        rw [if_neg (by simp)]
        simp only [Int.reduceEq, if_false, if_true]
        rw [show (unfSs [x]).headD emptyU = unfS x from by rw [unfSs]; rfl, ls_rep hn0 (hmx.imp id fun h => h.1)]
        exact reps_congr fun i j => by rw [LTh]; exact ih' x (by simp) i j
      · rw [if_pos k6, LS]
        simp only []
        by_cases k1 : k = 1
        · rw [if_pos k1, if_pos k1]
        rw [if_neg k1, if_neg k1]
        by_cases k2 : k = 2
        · rw [if_pos k2, if_pos k2]
        rw [if_neg k2, if_neg k2]
        by_cases k3 : k = 3
        · rw [if_pos k3, if_pos k3]
        rw [if_neg k3, if_neg k3]
        by_cases k4 : k = 4
        · rw [if_pos k4, if_pos k4]; exact hlt.1
        rw [if_neg k4, if_neg k4]
        by_cases k5 : k = 5
        · rw [if_pos k5, if_pos k5]; exact hlt.2
        rw [if_neg k5, if_neg k5]
        by_cases k7 : k = 7
        · rw [if_pos k7, if_pos k7]
          cases l with
          | nil => rw [unfSs, LSh, LTh]
          | cons x l => rw [unfSs, LSh, LTh]; exact ih' x (by simp) i j
        simp only [] at hnb
        rw [if_neg k1, if_neg k2, if_neg k3, if_neg k4, if_neg k5, if_neg k6, if_neg k7] at hnb
        cases hnb
theorem lead_lt {u : Mean.Un} {s : Tr.Tr} (h : shU u = unfS s) (hall : allB s = true) (i j : Nat) : Mean.Lead t u i j ↔ LT t s i j := by rw [lead_iff, h, ls_lt s hall]
end
end Go.Proofs.Ytjeljlgjkjeloaa
/- Turned trees lead as before; trees without groups. No program here. -/
namespace Go.Proofs.Ytjeljlgjkjeloaa
open Go.Proofs.Ytjeljlgjkjeloaa.Tr Go.Proofs.Ytjeljlgjkjeloaa.Mach

section
variable {t : List Int}
theorem lta_append : ∀ {a b : List Tr.Tr} {i j : Nat}, LTa t (a ++ b) i j ↔ LTa t a i j ∨ LTa t b i j
  | [], b, i, j => by rw [List.nil_append, LTa]; simp
  | s :: a, b, i, j => by
    rw [List.cons_append, LTa, LTa]
    simp only []
    rw [lta_append (a := a), or_assoc]
theorem lta_rev : ∀ {a : List Tr.Tr} {i j : Nat}, LTa t a.reverse i j ↔ LTa t a i j
  | [], i, j => by rw [List.reverse_nil]
  | s :: a, i, j => by
    rw [List.reverse_cons, lta_append, lta_rev (a := a), LTa, LTa, LTa]
    simp only []
    rw [or_false]
    exact or_comm
mutual
theorem turn_lt : ∀ {s s' : Tr.Tr}, TurnR s s' → ∀ i j, LT t s i j ↔ LT t s' i j
  | _, _, @TurnR.mk k r a l l0 l' n m z z' ix nm h h1 _, i, j => by
    have hc := turns_lt h
    rw [LT, LT]
    simp only []
    by_cases k5 : k = 5
    · subst k5
      simp only [Int.reduceEq, if_false, if_true]
      rcases h1 with rfl | ⟨-, rfl⟩
      · exact (hc i j).2.1
      · rw [lta_rev]; exact (hc i j).2.1
    · obtain rfl : l' = l0 := h1.elim id fun h => absurd h.1 k5
      rw [if_neg k5, if_neg k5]
      have hh := reps_congr (R := LTh t l) (R' := LTh t l') (fun i j => (hc i j).2.2) (n := n) (m := m) (i := i) (j := j)
      by_cases k4 : k = 4
      · rw [if_pos k4, if_pos k4, (hc i j).1]
      rw [if_neg k4, if_neg k4, (hc i j).2.2, hh]
theorem turns_lt : ∀ {l l0 : List Tr.Tr}, TurnRs l l0 → ∀ i j, (LTc t l i j ↔ LTc t l0 i j) ∧ (LTa t l i j ↔ LTa t l0 i j) ∧ (LTh t l i j ↔ LTh t l0 i j)
  | [], [], .nil, i, j => ⟨Iff.rfl, Iff.rfl, Iff.rfl⟩
  | s :: l, s' :: l0, .cons h1 h2, i, j => by
    have hs := turn_lt h1
    have hl := turns_lt h2
    rw [LTc, LTc, LTa, LTa, LTh, LTh]
    exact ⟨⟨fun ⟨m, h1, h2⟩ => ⟨m, (hs _ _).1 h1, (hl _ _).1.1 h2⟩, fun ⟨m, h1, h2⟩ => ⟨m, (hs _ _).2 h1, (hl _ _).1.2 h2⟩⟩, or_congr (hs _ _) (hl _ _).2.1, hs _ _⟩
end
end
theorem uzs_rev : ∀ l : List Tr.Tr, uzs l.reverse = uzs l
  | [] => rfl
  | t :: l => by rw [List.reverse_cons, uzs_append, uzs_rev l, uzs, uzs, uzs]; omega
theorem sizes_rev : ∀ l : List Tr.Tr, sizes l.reverse = sizes l
  | [] => rfl
  | t :: l => by rw [List.reverse_cons, sizes_app, sizes_rev l, sizes, sizes, sizes]; omega
theorem deeps_rev : ∀ l : List Tr.Tr, deeps l.reverse = deeps l
  | [] => rfl
  | t :: l => by rw [List.reverse_cons, deeps_app, deeps_rev l, deeps, deeps, deeps]; omega
theorem nodeF_lz {k : Int} {r : List (Int × Int)} {a : Int} {q : Nat} {n m : Int} {z z' : Bool} {i : Int} {s : ByteArray} (h : z' = z ∨ k = 6) : nodeF k r a q n m z i s = nodeF k r a q n m z' i s := by
  rcases h with rfl | rfl
  · rfl
  · rfl
mutual
theorem turn_same : ∀ {s s' : Tr.Tr}, TurnR s s' → allB s' = allB s ∧ size s' = size s ∧ deep s' = deep s ∧ uz s' = uz s
  | _, _, @TurnR.mk k r a l l0 l' n m z z' ix nm h h1 h2 => by
    obtain ⟨c1, c2, c3, c4, c5⟩ := turns_same h
    have e1 : l'.length = l.length := by rcases h1 with rfl | ⟨-, rfl⟩; exact c5; rw [List.length_reverse]; exact c5
    have e2 : allsB l' = allsB l := by
      rcases h1 with rfl | ⟨-, rfl⟩
      · exact c1
      · rw [← c1]
        exact Bool.eq_iff_iff.2 (by rw [allsB_iff, allsB_iff]; simp)
    have e3 : sizes l' = sizes l := by rcases h1 with rfl | ⟨-, rfl⟩; exact c2; rw [sizes_rev]; exact c2
    have e4 : deeps l' = deeps l := by rcases h1 with rfl | ⟨-, rfl⟩; exact c3; rw [deeps_rev]; exact c3
    have e5 : uzs l' = uzs l := by rcases h1 with rfl | ⟨-, rfl⟩; exact c4; rw [uzs_rev]; exact c4
    refine ⟨?_, by rw [size, size, e3], by rw [deep, deep, e4], by rw [uz, uz, e5]⟩
    rw [allB, allB, e2, nodeB, nodeB, e1, nodeF_lz h2]
theorem turns_same : ∀ {l l0 : List Tr.Tr}, TurnRs l l0 → allsB l0 = allsB l ∧ sizes l0 = sizes l ∧ deeps l0 = deeps l ∧ uzs l0 = uzs l ∧ l0.length = l.length
  | [], [], .nil => ⟨rfl, rfl, rfl, rfl, rfl⟩
  | s :: l, s' :: l0, .cons h1 h2 => by
    obtain ⟨a1, a2, a3, a4⟩ := turn_same h1
    obtain ⟨b1, b2, b3, b4, b5⟩ := turns_same h2
    exact ⟨by rw [allsB, allsB, a1, b1], by rw [sizes, sizes, a2, b2], by rw [deeps, deeps, a3, b3], by rw [uzs, uzs, a4, b4], by rw [List.length_cons, List.length_cons, b5]⟩
end
theorem turn_sound {s s' : Tr.Tr} (h : TurnR s s') : soundB s' = soundB s := by
  obtain ⟨h1, h2, h3, -⟩ := turn_same h
  rw [soundB, soundB, h1, h2, h3]
/-! ### without groups -/
theorem bare_other {k : Int} {r : List (Int × Int)} {a n m : Int} {z : Bool} {i : Int} {s : ByteArray} {l : List Tr.Tr} (h : k ≠ 7) : bareS (.mk k r a l n m z i s) = .mk k r a (l.map bareS) n m z i s := by rw [bareS, if_neg h]
theorem bare_ok : ∀ (t : Tr.Tr), allB t = true → allB (bareS t) = true ∧ size (bareS t) ≤ size t ∧ deep (bareS t) ≤ deep t ∧ uz (bareS t) ≤ uz t := by
  intro t
  induction t using Tr.ind with
  | h t ih =>
    intro hall
    obtain ⟨hnb, hsb⟩ := (allB_iff _).1 hall
    cases t with
    | mk k r a l n m z i s =>
      have ih' : ∀ x ∈ l, allB (bareS x) = true ∧ size (bareS x) ≤ size x ∧ deep (bareS x) ≤ deep x ∧ uz (bareS x) ≤ uz x := fun x hx => ih x hx (hsb x hx)
      have hlist : ∀ l : List Tr.Tr, (∀ x ∈ l, allB (bareS x) = true ∧ size (bareS x) ≤ size x ∧ deep (bareS x) ≤ deep x ∧ uz (bareS x) ≤ uz x) → sizes (l.map bareS) ≤ sizes l ∧ deeps (l.map bareS) ≤ deeps l ∧ uzs (l.map bareS) ≤ uzs l := by
        intro l
        induction l with
        | nil => intro _; exact ⟨Nat.le_refl _, Nat.le_refl _, Nat.le_refl _⟩
        | cons x l ihl =>
          intro h
          obtain ⟨-, h1, h2, h3⟩ := h x List.mem_cons_self
          obtain ⟨g1, g2, g3⟩ := ihl fun y hy => h y (List.mem_cons_of_mem _ hy)
          rw [List.map_cons, sizes, sizes, deeps, deeps, uzs, uzs]
          omega
      obtain ⟨g1, g2, g3⟩ := hlist l ih'
      by_cases k7 : k = 7
      · subst k7
        unfold nodeB nodeF at hnb
        simp only [reduceIte, Int.reduceEq, Bool.and_eq_true, beq_iff_eq] at hnb
        obtain ⟨x, rfl⟩ := List.length_eq_one_iff.1 hnb.2.1
        obtain ⟨h1, h2, h3, h4⟩ := ih' x (by simp)
        rw [bare_one rfl, size, deep, uz, sizes, sizes, deeps, deeps, uzs, uzs]
        refine ⟨h1, by omega, by omega, ?_⟩
        rw [if_pos (by decide)]
        omega
      · rw [bare_other k7, size, size, deep, deep, uz, uz]
        refine ⟨(allB_iff _).2 ⟨?_, fun x hx => ?_⟩, by omega, by omega, ?_⟩
        · unfold nodeB at hnb ⊢
          simp only [List.length_map]
          exact hnb
        · obtain ⟨y, hy, rfl⟩ := List.mem_map.1 (show x ∈ l.map bareS from hx)
          exact (ih' y hy).1
        · split
          · omega
          · split
            · have := Nat.mul_le_mul_left (max n.toNat 1) g3
              omega
            · have h1 := Nat.mul_le_mul_left n.toNat g3
              have h2 := Nat.mul_le_mul_left (m - n).toNat (show 1 + uzs (l.map bareS) ≤ 1 + uzs l from by omega)
              omega
theorem bare_sound {t : Tr.Tr} (h : soundB t = true) : soundB (bareS t) = true := by
  unfold soundB at h ⊢
  simp only [Bool.and_eq_true, decide_eq_true_eq] at h ⊢
  obtain ⟨h1, h2, h3, -⟩ := bare_ok t h.1.1
  exact ⟨⟨h1, by omega⟩, by omega⟩
/-- An unfolded form without its groups. -/
def bareU : Us → Us
  | .mk k r a i z l => if k = 7 then (l.map bareU).headD (.mk k r a i z l) else .mk k r a i z (l.map bareU)
theorem bareU_other {k : Int} {r : List (Int × Int)} {a i : Int} {z : Bool} {l : List Us} (h : k ≠ 7) : bareU (.mk k r a i z l) = .mk k r a i z (l.map bareU) := by rw [bareU, if_neg h]
theorem bareU_opt {z : Bool} {x : Us} : ∀ n, bareU (optU z x n) = optU z (bareU x) n
  | 0 => by rw [optU, optU, loopU, loopU, bareU_other (by decide)]; rfl
  | n + 1 => by
    rw [optU, optU, loopU, loopU, bareU_other (by decide), List.map_singleton, catU, catU, bareU_other (by decide), List.map_cons, List.map_singleton, bareU_opt n]
theorem bareU_rep {x : Us} {n m : Int} {z : Bool} : bareU (repU x n m z) = repU (bareU x) n m z := by
  unfold repU
  split
  · split
    · rw [loopU, loopU, bareU_other (by decide)]; rfl
    · rw [catU, catU, bareU_other (by decide), List.map_append, List.map_replicate, List.map_singleton, loopU, loopU, bareU_other (by decide)]; rfl
  · split
    · rw [emptyU, bareU_other (by decide)]; rfl
    · rw [catU, catU, bareU_other (by decide), List.map_append, List.map_replicate]
      split
      · rw [List.map_singleton, bareU_opt]
      · rfl
theorem unf_bare : ∀ (t : Tr.Tr), allB t = true → unfS (bareS t) = bareU (unfS t) := by
  intro t
  induction t using Tr.ind with
  | h t ih =>
    intro hall
    obtain ⟨hnb, hsb⟩ := (allB_iff _).1 hall
    cases t with
    | mk k r a l n m z i s =>
      have ih' : ∀ x ∈ l, unfS (bareS x) = bareU (unfS x) := fun x hx => ih x hx (hsb x hx)
      unfold nodeB nodeF at hnb
      by_cases k7 : k = 7
      · subst k7
        simp only [reduceIte, Int.reduceEq, Bool.and_eq_true, beq_iff_eq] at hnb
        obtain ⟨x, rfl⟩ := List.length_eq_one_iff.1 hnb.2.1
        rw [bare_one rfl, ih' x (by simp), unfS, if_pos (by decide), bareU, if_pos rfl, unfSs, unfSs]
        rfl
      · rw [bare_other k7]
        by_cases k6 : k = 6
        · subst k6
          simp only [reduceIte, Int.reduceEq, Bool.and_eq_true, Bool.or_eq_true, decide_eq_true_eq, beq_iff_eq] at hnb
          obtain ⟨x, rfl⟩ := List.length_eq_one_iff.1 hnb.2.1
          rw [unfS, if_neg (by simp), unfS, if_neg (by simp), bareU_rep, List.map_singleton, unfSs, unfSs, unfSs, unfSs]
          simp only [List.headD_cons]
          rw [ih' x (by simp)]
        · rw [unfS, if_pos k6, unfS, if_pos k6, bareU_other k7, unfSs_map, unfSs_map, List.map_map, List.map_map]
          congr 1
          exact List.map_congr_left fun x hx => ih' x hx
end Go.Proofs.Ytjeljlgjkjeloaa
/- The walker's Ends hang neither on blocks nor on groups. No program here. -/
namespace Go.Proofs.Ytjeljlgjkjeloaa
open Go.Proofs.Ytjeljlgjkjeloaa.Tr Go.Proofs.Ytjeljlgjkjeloaa.Mach
namespace Mean

section
variable {t : List Int} {at_ : Nat}
theorem one_fun {s a b : St} {k : Task} (h : One t at_ s k a) (g : One t at_ s k b) : a = b := by
  obtain ⟨n, hn⟩ := one_run h
  obtain ⟨m, hm⟩ := one_run g
  have h1 := run_more (s := s) (hn 1 []) m
  have h2 := run_more (s := s) (hm 1 []) n
  rw [show m + 1 + n = n + 1 + m from by omega] at h2
  rw [h1] at h2
  exact Option.some.inj h2
end
/-! ### other blocks -/
def Un.mapAd (f : Nat → Nat) : Un → Un
  | .mk a k r b i z l => .mk (f a) k r b i z (l.map (Un.mapAd f))
section
variable {f : Nat → Nat}
theorem mapAd_eq (u : Un) : u.mapAd f = .mk (f u.ad) u.kind u.rng u.ast u.ix u.lz (u.subs.map (Un.mapAd f)) := by cases u; rw [Un.mapAd]; rfl
theorem mapAd_ad (u : Un) : (u.mapAd f).ad = f u.ad := by rw [mapAd_eq]; rfl
theorem mapAd_kind (u : Un) : (u.mapAd f).kind = u.kind := by rw [mapAd_eq]; rfl
theorem mapAd_rng (u : Un) : (u.mapAd f).rng = u.rng := by rw [mapAd_eq]; rfl
theorem mapAd_ast (u : Un) : (u.mapAd f).ast = u.ast := by rw [mapAd_eq]; rfl
theorem mapAd_ix (u : Un) : (u.mapAd f).ix = u.ix := by rw [mapAd_eq]; rfl
theorem mapAd_lz (u : Un) : (u.mapAd f).lz = u.lz := by rw [mapAd_eq]; rfl
theorem mapAd_subs (u : Un) : (u.mapAd f).subs = u.subs.map (Un.mapAd f) := by rw [mapAd_eq]; rfl
theorem shU_eq (u : Un) : shU u = .mk u.kind u.rng u.ast u.ix u.lz (u.subs.map shU) := by cases u; rw [shU, shUs_map]; rfl
theorem mapAd_sh : ∀ u : Un, shU (u.mapAd f) = shU u := by
  intro u
  induction u using Un.ind with
  | h u ih =>
    rw [shU_eq, shU_eq u, mapAd_kind, mapAd_rng, mapAd_ast, mapAd_ix, mapAd_lz, mapAd_subs, List.map_map]
    congr 1
    exact List.map_congr_left fun x hx => ih x hx
theorem mapAd_all : ∀ u : Un, (u.mapAd f).all.map Un.ad = (u.all.map Un.ad).map f := by
  intro u
  induction u using Un.ind with
  | h u ih =>
    rw [all_subs, all_subs u, List.map_cons, List.map_cons, List.map_cons, mapAd_ad, mapAd_subs]
    congr 1
    have : ∀ l : List Un, (∀ s ∈ l, (s.mapAd f).all.map Un.ad = (s.all.map Un.ad).map f) → (allU (l.map (Un.mapAd f))).map Un.ad = ((allU l).map Un.ad).map f := by
      intro l
      induction l with
      | nil => intro _; rfl
      | cons s l ihl =>
        intro h
        rw [List.map_cons, allU, allU, List.map_append, List.map_append, List.map_append, h s List.mem_cons_self, ihl fun x hx => h x (List.mem_cons_of_mem _ hx)]
    exact this u.subs ih
end
/-- The form and the blocks make the tree. -/
theorem eq_of : ∀ u v : Un, shU u = shU v → u.all.map Un.ad = v.all.map Un.ad → u = v := by
  intro u
  induction u using Un.ind with
  | h u ih =>
    intro v hs ha
    have hl : ∀ l : List Un, (∀ s ∈ l, ∀ v, shU s = shU v → s.all.map Un.ad = v.all.map Un.ad → s = v) → ∀ l', shUs l = shUs l' → (allU l).map Un.ad = (allU l').map Un.ad → l = l' := by
      intro l
      induction l with
      | nil =>
        intro _ l' h1 _
        cases l' with
        | nil => rfl
        | cons x l' => rw [shUs, shUs] at h1; cases h1
      | cons s l ihl =>
        intro h l' h1 h2
        cases l' with
        | nil => rw [shUs, shUs] at h1; cases h1
        | cons x l' =>
          rw [shUs, shUs] at h1
          injection h1 with e1 e2
          rw [allU, allU, List.map_append, List.map_append] at h2
          have hlen : (s.all.map Un.ad).length = (x.all.map Un.ad).length := by rw [List.length_map, List.length_map, all_len, all_len, e1]
          obtain ⟨g1, g2⟩ := List.append_inj h2 hlen
          rw [h s List.mem_cons_self x e1 g1, ihl (fun y hy => h y (List.mem_cons_of_mem _ hy)) l' e2 g2]
    cases u with
    | mk a k r b i z l =>
      cases v with
      | mk a' k' r' b' i' z' l' =>
        rw [shU, shU] at hs
        injection hs with e1 e2 e3 e4 e5 e6
        rw [Un.all, Un.all, List.map_cons, List.map_cons] at ha
        injection ha with g1 g2
        have g1' : a = a' := g1
        subst e1 e2 e3 e4 e5 g1'
        rw [hl l ih l' e6 g2]
theorem map_onto : ∀ {X Y : List Nat}, X.Nodup → X.length = Y.length → ∃ f : Nat → Nat, X.map f = Y
  | [], [], _, _ => ⟨fun x => x, rfl⟩
  | x :: X, y :: Y, hn, hl => by
    rw [List.nodup_cons] at hn
    obtain ⟨f, hf⟩ := map_onto hn.2 (by simpa using hl)
    refine ⟨fun a => if a = x then y else f a, ?_⟩
    rw [List.map_cons, if_pos rfl, ← hf]
    congr 1
    exact List.map_congr_left fun a ha => if_neg fun e => hn.1 (by rw [← e]; exact ha)
theorem ren_ex {u v : Un} (hs : shU u = shU v) (hu : (u.all.map Un.ad).Nodup) : ∃ f, u.mapAd f = v := by
  obtain ⟨f, hf⟩ := map_onto (X := u.all.map Un.ad) (Y := v.all.map Un.ad) hu (by rw [List.length_map, List.length_map, all_len, all_len, hs])
  exact ⟨f, eq_of _ _ (by rw [mapAd_sh, hs]) (by rw [mapAd_all, hf])⟩
def Kt.mapAd (f : Nat → Nat) : Kt → Kt
  | .top => .top
  | .row l K => .row (l.map (Un.mapAd f)) (K.mapAd f)
  | .grp i K => .grp i (K.mapAd f)
  | .dec n K => .dec (n.mapAd f) (K.mapAd f)
def Task.mapAd (f : Nat → Nat) : Task → Task
  | .beg n pl nt K => .beg (n.mapAd f) pl nt (K.mapAd f)
  | .dcd n pl nt K => .dcd (n.mapAd f) pl nt (K.mapAd f)
  | .go K pl nt => .go (K.mapAd f) pl nt
section
variable {t : List Int} {at_ : Nat} {f : Nat → Nat} {U : List Un}
theorem rowT_map (l : List Un) (pl : Nat) (nt : List Int) (K : Kt) : (rowT l pl nt K).mapAd f = rowT (l.map (Un.mapAd f)) pl nt (K.mapAd f) := by cases l <;> rfl
theorem choose_map (n : Un) (pl : Nat) (nt : List Int) (A K : Kt) : (choose n pl nt A K).map (Task.mapAd f) = choose (n.mapAd f) pl nt (A.mapAd f) (K.mapAd f) := by
  unfold choose
  rw [mapAd_subs, mapAd_lz]
  cases n.subs with
  | nil => rfl
  | cons s l => cases n.lz <;> rfl
theorem first_map (n : Un) (pl : Nat) (nt : List Int) (K : Kt) : (first t n pl nt K).map (Task.mapAd f) = first t (n.mapAd f) pl nt (K.mapAd f) := by
  unfold first
  rw [mapAd_kind, mapAd_rng, mapAd_ast, mapAd_ix, mapAd_subs]
  by_cases k1 : n.kind = 1
  · rw [if_pos k1, if_pos k1]; rfl
  rw [if_neg k1, if_neg k1]
  by_cases k2 : n.kind = 2
  · rw [if_pos k2, if_pos k2]; split <;> rfl
  rw [if_neg k2, if_neg k2]
  by_cases k3 : n.kind = 3
  · rw [if_pos k3, if_pos k3]; split <;> rfl
  rw [if_neg k3, if_neg k3]
  by_cases k4 : n.kind = 4
  · rw [if_pos k4, if_pos k4, List.map_singleton, rowT_map]
  rw [if_neg k4, if_neg k4]
  by_cases k5 : n.kind = 5
  · rw [if_pos k5, if_pos k5, List.map_map, List.map_map]; rfl
  rw [if_neg k5, if_neg k5]
  by_cases k7 : n.kind = 7
  · rw [if_pos k7, if_pos k7]; cases n.subs <;> rfl
  rw [if_neg k7, if_neg k7]
  by_cases m1 : n.kind = -1
  · rw [if_pos m1, if_pos m1]; exact choose_map n pl nt K K
  rw [if_neg m1, if_neg m1]
  by_cases m2 : n.kind = -2
  · rw [if_pos m2, if_pos m2]; rfl
  rw [if_neg m2, if_neg m2]
  by_cases m3 : n.kind = -3
  · rw [if_pos m3, if_pos m3]; cases n.subs <;> rfl
  rw [if_neg m3, if_neg m3]; rfl
/-- The same state, with other blocks. -/
def RenS (f : Nat → Nat) (U : List Un) (s s' : St) : Prop := (∀ n ∈ U, ∀ pl b, s'.met (f n.ad, pl, b) = s.met (n.ad, pl, b)) ∧ s'.out = s.out
theorem ren_mark {s s' : St} (hf : ∀ a ∈ U, ∀ b ∈ U, f a.ad = f b.ad → a.ad = b.ad) (h : RenS f U s s') {n : Un} (hn : n ∈ U) (pl : Nat) (b : Bool) : RenS f U (s.mark (n.ad, pl, b)) (s'.mark (f n.ad, pl, b)) := by
  refine ⟨fun x hx p c => ?_, h.2⟩
  unfold St.mark
  simp only [Prod.mk.injEq]
  have := h.1 x hx p c
  by_cases e : x.ad = n.ad ∧ p = pl ∧ c = b
  · rw [if_pos e, if_pos ⟨by rw [e.1], e.2⟩, this]
  · rw [if_neg e, if_neg fun g => e ⟨hf x hx n hn g.1, g.2⟩, this]
theorem ren_work {s s' : St} (hf : ∀ a ∈ U, ∀ b ∈ U, f a.ad = f b.ad → a.ad = b.ad) (h : RenS f U s s') {k : Task} (hk : k.uses U t.length) : RenS f U (work t at_ s k).1 (work t at_ s' (k.mapAd f)).1 ∧ (work t at_ s' (k.mapAd f)).2 = (work t at_ s k).2.map (Task.mapAd f) := by
  cases k with
  | beg n pl nt K =>
    refine ⟨?_, ?_⟩
    · have := ren_mark hf h hk.1 pl false
      simpa only [work, Task.mapAd, mapAd_ad] using this
    · simp only [work, Task.mapAd, mapAd_ad, h.1 n hk.1]
      split
      · exact (first_map n pl nt K).symm
      · rfl
  | dcd n pl nt K =>
    refine ⟨?_, ?_⟩
    · have := ren_mark hf h hk.1 pl true
      simpa only [work, Task.mapAd, mapAd_ad] using this
    · simp only [work, Task.mapAd, mapAd_ad, h.1 n hk.1]
      split
      · exact (choose_map n pl nt (.dec n K) K).symm
      · rfl
  | go K pl nt =>
    cases K with
    | top =>
      refine ⟨?_, rfl⟩
      simp only [work, Task.mapAd, Kt.mapAd, ended, h.2]
      split
      · exact h
      · exact ⟨h.1, rfl⟩
    | row l K =>
      refine ⟨h, ?_⟩
      show [rowT (l.map (Un.mapAd f)) pl nt (K.mapAd f)] = [(rowT l pl nt K).mapAd f]
      rw [rowT_map]
    | grp i K => exact ⟨h, rfl⟩
    | dec n K => exact ⟨h, rfl⟩
mutual
theorem ren_one (hU : Closed U) (hf : ∀ a ∈ U, ∀ b ∈ U, f a.ad = f b.ad → a.ad = b.ad) : ∀ {s s1 : St} {k : Task}, One t at_ s k s1 → k.uses U t.length → ∀ {s' : St}, RenS f U s s' → ∃ s1', One t at_ s' (k.mapAd f) s1' ∧ RenS f U s1 s1'
  | s, s1, k, .mk h, hk, s', hr => by
    obtain ⟨h1, h2⟩ := ren_work (at_ := at_) hf hr hk
    obtain ⟨s1', h3, h4⟩ := ren_many hU hf h (work_uses hU hk) h1
    exact ⟨s1', .mk (by rw [h2]; exact h3), h4⟩
theorem ren_many (hU : Closed U) (hf : ∀ a ∈ U, ∀ b ∈ U, f a.ad = f b.ad → a.ad = b.ad) : ∀ {s s1 : St} {l : List Task}, Many t at_ s l s1 → (∀ k ∈ l, k.uses U t.length) → ∀ {s' : St}, RenS f U s s' → ∃ s1', Many t at_ s' (l.map (Task.mapAd f)) s1' ∧ RenS f U s1 s1'
  | s, _, [], .nil, _, s', hr => ⟨s', .nil, hr⟩
  | s, s1, k :: l, .cons h1 h2, hk, s', hr => by
    obtain ⟨sa, g1, g2⟩ := ren_one hU hf h1 (hk k List.mem_cons_self) hr
    obtain ⟨sb, g3, g4⟩ := ren_many hU hf h2 (fun x hx => hk x (List.mem_cons_of_mem _ hx)) g2
    exact ⟨sb, .cons g1 g3, g4⟩
end
end
/-- Trees of one form have the same parses. -/
theorem same_out {t : List Int} {at_ pl : Nat} {u v : Un} (hs : shU u = shU v) (hu : (u.all.map Un.ad).Nodup) (hv : (v.all.map Un.ad).Nodup) (hcl : Closed u.all) (hpl : pl ≤ t.length) {nt : List Int} {a b : St} (ha : One t at_ st0 (.beg u pl nt .top) a) (hb : One t at_ st0 (.beg v pl nt .top) b) : b.out = a.out := by
  obtain ⟨f, rfl⟩ := ren_ex hs hu
  have hf : ∀ a ∈ u.all, ∀ b ∈ u.all, f a.ad = f b.ad → a.ad = b.ad := fun x hx y hy e => by
    rw [mapAd_all] at hv
    exact nodup_one hv (List.mem_map_of_mem hx) (List.mem_map_of_mem hy) e
  have hself : u ∈ u.all := by rw [all_subs]; exact List.mem_cons_self
  obtain ⟨s1, h1, h2⟩ := ren_one (U := u.all) hcl hf ha ⟨hself, hpl, trivial⟩ (s' := st0) ⟨fun _ _ _ _ => rfl, rfl⟩
  rw [one_fun hb h1]
  exact h2.2
/-! ### no groups -/
def bareN : Un → Un
  | .mk a k r b i z l => if k = 7 then (l.map bareN).headD (.mk a k r b i z l) else .mk a k r b i z (l.map bareN)
theorem bareN_grp {n m : Un} {l : List Un} (h : n.kind = 7) (hs : n.subs = m :: l) : bareN n = bareN m := by
  cases n with
  | mk a k r b i z q =>
    cases (show k = 7 from h)
    cases (show q = m :: l from hs)
    rw [bareN, if_pos rfl]; rfl
theorem bareN_eq {n : Un} (h : n.kind ≠ 7) : bareN n = .mk n.ad n.kind n.rng n.ast n.ix n.lz (n.subs.map bareN) := by
  cases n with
  | mk a k r b i z q => rw [bareN, if_neg (show k ≠ 7 from h)]; rfl
theorem bareN_sh : ∀ n : Un, shU (bareN n) = bareU (shU n) := by
  intro n
  induction n using Un.ind with
  | h n ih =>
    by_cases h7 : n.kind = 7
    · rw [shU_eq n, bareU, if_pos h7]
      cases hs : n.subs with
      | nil =>
        cases n with
        | mk a k r b i z q =>
          cases (show q = [] from hs)
          rw [bareN, if_pos (show k = 7 from h7), shU_eq]
          rfl
      | cons m l => rw [bareN_grp h7 hs, ih m (by rw [hs]; simp)]; rfl
    · rw [bareN_eq h7, shU_eq n, bareU_other h7, shU, shUs_map, List.map_map, List.map_map]
      congr 1
      exact List.map_congr_left fun x hx => ih x hx
theorem bareN_all : ∀ n : Un, ((bareN n).all.map Un.ad).Sublist (n.all.map Un.ad) := by
  intro n
  induction n using Un.ind with
  | h n ih =>
    by_cases h7 : n.kind = 7
    · cases hs : n.subs with
      | nil =>
        cases n with
        | mk a k r b i z q =>
          cases (show q = [] from hs)
          rw [bareN, if_pos (show k = 7 from h7)]
          exact List.Sublist.refl _
      | cons m l =>
        rw [bareN_grp h7 hs, all_subs n, hs, allU, List.map_cons, List.map_append]
        exact ((ih m (by rw [hs]; simp)).trans (List.sublist_append_left _ _)).trans (List.sublist_cons_self _ _)
    · rw [bareN_eq h7, Un.all, all_subs n, List.map_cons, List.map_cons]
      refine List.Sublist.cons_cons _ ?_
      have : ∀ l : List Un, (∀ s ∈ l, ((bareN s).all.map Un.ad).Sublist (s.all.map Un.ad)) → ((allU (l.map bareN)).map Un.ad).Sublist ((allU l).map Un.ad) := by
        intro l
        induction l with
        | nil => intro _; exact List.Sublist.refl _
        | cons s l ihl =>
          intro h
          rw [List.map_cons, allU, allU, List.map_append, List.map_append]
          exact (h s List.mem_cons_self).append (ihl fun x hx => h x (List.mem_cons_of_mem _ hx))
      exact this n.subs ih
def bareK : Kt → Kt
  | .top => .top
  | .row l K => .row (l.map bareN) (bareK K)
  | .grp _ K => bareK K
  | .dec n K => .dec (bareN n) (bareK K)
def bareT : Task → Task
  | .beg n pl _ K => .beg (bareN n) pl [] (bareK K)
  | .dcd n pl _ K => .dcd (bareN n) pl [] (bareK K)
  | .go K pl _ => .go (bareK K) pl []
def Kt.nice (U : List Un) : Kt → Prop
  | .top => True
  | .row l K => (∀ s ∈ l, s ∈ U) ∧ K.nice U
  | .grp _ K => K.nice U
  | .dec n K => n ∈ U ∧ n.kind ≠ 7 ∧ K.nice U
def Task.nice (U : List Un) : Task → Prop
  | .beg n _ _ K => n ∈ U ∧ K.nice U
  | .dcd n _ _ K => n ∈ U ∧ n.kind ≠ 7 ∧ K.nice U
  | .go K _ _ => K.nice U
section
variable {t : List Int} {at_ : Nat} {U : List Un}
theorem rowT_nice {l : List Un} {pl : Nat} {nt : List Int} {K : Kt} (hl : ∀ s ∈ l, s ∈ U) (hK : K.nice U) : (rowT l pl nt K).nice U := by
  cases l with
  | nil => exact hK
  | cons s l => exact ⟨hl s List.mem_cons_self, (⟨fun x hx => hl x (List.mem_cons_of_mem _ hx), hK⟩ : (∀ x ∈ l, x ∈ U) ∧ K.nice U)⟩
theorem choose_nice (hU : Closed U) {n : Un} (hn : n ∈ U) {pl : Nat} {nt : List Int} {A K : Kt} (hA : A.nice U) (hK : K.nice U) : ∀ k ∈ choose n pl nt A K, k.nice U := by
  unfold choose
  intro k hk
  cases hs : n.subs with
  | nil => rw [hs] at hk; cases hk
  | cons s l =>
    rw [hs] at hk
    have hsu : s ∈ U := hU n hn s (by rw [hs]; exact List.mem_cons_self)
    simp only [] at hk
    split at hk <;> (simp only [List.mem_cons, List.not_mem_nil, or_false] at hk; rcases hk with rfl | rfl)
    · exact hK
    · exact ⟨hsu, hA⟩
    · exact ⟨hsu, hA⟩
    · exact hK
theorem first_nice (hU : Closed U) {n : Un} (hn : n ∈ U) {pl : Nat} {nt : List Int} {K : Kt} (hK : K.nice U) : ∀ k ∈ first t n pl nt K, k.nice U := by
  have hsub := hU n hn
  unfold first
  intro k hk
  split at hk
  · simp only [List.mem_singleton] at hk; subst hk; exact hK
  split at hk
  · split at hk
    · simp only [List.mem_singleton] at hk; subst hk; exact hK
    · cases hk
  split at hk
  · split at hk
    · simp only [List.mem_singleton] at hk; subst hk; exact hK
    · cases hk
  split at hk
  · simp only [List.mem_singleton] at hk; subst hk; exact rowT_nice hsub hK
  split at hk
  · obtain ⟨s, hs, rfl⟩ := List.mem_map.1 hk
    exact ⟨hsub s hs, hK⟩
  split at hk
  · split at hk
    · cases hk
    · rename_i s l hs
      simp only [List.mem_singleton] at hk; subst hk
      exact ⟨hsub s (by rw [hs]; exact List.mem_cons_self), hK⟩
  split at hk
  · exact choose_nice hU hn hK hK k hk
  split at hk
  · rename_i h2
    simp only [List.mem_singleton] at hk; subst hk; exact ⟨hn, by rw [h2]; decide, hK⟩
  split at hk
  · rename_i h3
    split at hk
    · cases hk
    · rename_i s l hs
      simp only [List.mem_singleton] at hk; subst hk
      have h1 : s ∈ U := hsub s (by rw [hs]; exact List.mem_cons_self)
      have h2 : (Kt.dec n K).nice U := show n ∈ U ∧ n.kind ≠ 7 ∧ K.nice U from ⟨hn, by rw [h3]; decide, hK⟩
      exact ⟨h1, h2⟩
  · cases hk
theorem work_nice (hU : Closed U) {s : St} {k : Task} (hk : k.nice U) : ∀ x ∈ (work t at_ s k).2, x.nice U := by
  intro x hx
  cases k with
  | beg n pl nt K =>
    simp only [work] at hx
    split at hx
    · exact first_nice hU hk.1 hk.2 x hx
    · cases hx
  | dcd n pl nt K =>
    simp only [work] at hx
    split at hx
    · exact choose_nice (A := .dec n K) hU hk.1 (show n ∈ U ∧ n.kind ≠ 7 ∧ K.nice U from hk) hk.2.2 x hx
    · cases hx
  | go K pl nt =>
    cases K with
    | top => simp only [work] at hx; cases hx
    | row l K => simp only [work, List.mem_singleton] at hx; subst hx; exact rowT_nice hk.1 hk.2
    | grp i K => simp only [work, List.mem_singleton] at hx; subst hx; exact hk
    | dec n K => simp only [work, List.mem_singleton] at hx; subst hx; exact hk
theorem rowT_bare (l : List Un) (pl : Nat) (nt nt' : List Int) (K : Kt) : (rowT (l.map bareN) pl nt' (bareK K)).plain = bareT (rowT l pl nt K) := by cases l <;> rfl
theorem choose_bare {n : Un} (h : n.kind ≠ 7) (pl : Nat) (nt nt' : List Int) (A K : Kt) : (choose (bareN n) pl nt' (bareK A) (bareK K)).map Task.plain = (choose n pl nt A K).map bareT := by
  rw [bareN_eq h]
  unfold choose
  simp only [Un.subs, Un.lz]
  cases hs : n.subs with
  | nil => cases n; cases (show _ = [] from hs); rfl
  | cons s l =>
    cases n with
    | mk a k r b i z q =>
      cases (show q = s :: l from hs)
      simp only [Un.subs, List.map_cons, Un.lz]
      cases z <;> rfl
theorem first_bare {n : Un} (h : n.kind ≠ 7) (pl : Nat) (nt nt' : List Int) (K : Kt) : (first t (bareN n) pl nt' (bareK K)).map Task.plain = (first t n pl nt K).map bareT := by
  have hc := choose_bare h pl nt nt' K K
  have hb := bareN_eq h
  unfold first
  rw [show (bareN n).kind = n.kind from by rw [hb]; rfl, show (bareN n).rng = n.rng from by rw [hb]; rfl, show (bareN n).ast = n.ast from by rw [hb]; rfl, show (bareN n).subs = n.subs.map bareN from by rw [hb]; rfl]
  by_cases k1 : n.kind = 1
  · rw [if_pos k1, if_pos k1]; rfl
  rw [if_neg k1, if_neg k1]
  by_cases k2 : n.kind = 2
  · rw [if_pos k2, if_pos k2]; split <;> rfl
  rw [if_neg k2, if_neg k2]
  by_cases k3 : n.kind = 3
  · rw [if_pos k3, if_pos k3]; split <;> rfl
  rw [if_neg k3, if_neg k3]
  by_cases k4 : n.kind = 4
  · rw [if_pos k4, if_pos k4, List.map_singleton, List.map_singleton, rowT_bare n.subs pl nt nt' K]
  rw [if_neg k4, if_neg k4]
  by_cases k5 : n.kind = 5
  · rw [if_pos k5, if_pos k5, List.map_map, List.map_map, List.map_map]; rfl
  rw [if_neg k5, if_neg k5, if_neg h, if_neg h]
  by_cases m1 : n.kind = -1
  · rw [if_pos m1, if_pos m1]; exact hc
  rw [if_neg m1, if_neg m1]
  by_cases m2 : n.kind = -2
  · rw [if_pos m2, if_pos m2]; rfl
  rw [if_neg m2, if_neg m2]
  by_cases m3 : n.kind = -3
  · rw [if_pos m3, if_pos m3]; cases n.subs <;> rfl
  rw [if_neg m3, if_neg m3]; rfl
/-- The same state, but for groups and notes. -/
def BareR (U : List Un) (s s' : St) : Prop := (∀ n ∈ U, n.kind ≠ 7 → ∀ pl b, s.met (n.ad, pl, b) = 0 ↔ s'.met (n.ad, pl, b) = 0) ∧ s.out.map (·.1) = s'.out.map (·.1)
/-- A group that was begun, its sub was begun. -/
def GInv (U : List Un) (p : Option (Nat × Nat)) (s : St) : Prop := ∀ n ∈ U, n.kind = 7 → ∀ m l, n.subs = m :: l → ∀ pl, s.met (n.ad, pl, false) ≠ 0 → s.met (m.ad, pl, false) ≠ 0 ∨ p = some (m.ad, pl)
def pOf : Task → Option (Nat × Nat)
  | .beg n pl _ _ => some (n.ad, pl)
  | _ => none
def pL : List Task → Option (Nat × Nat)
  | [] => none
  | k :: _ => pOf k
theorem GInv.weak {s : St} (h : GInv U none s) (p : Option (Nat × Nat)) : GInv U p s := fun n hn h7 m l hs pl hm => (h n hn h7 m l hs pl hm).elim .inl fun e => by cases e
theorem met_mark {s : St} {m x : Mark} (h : s.met x ≠ 0) : (s.mark m).met x ≠ 0 := by unfold St.mark; simp only []; split <;> omega
theorem met_self (s : St) (m : Mark) : (s.mark m).met m ≠ 0 := by unfold St.mark; simp
theorem met_other {s : St} {m x : Mark} (h : x ≠ m) : (s.mark m).met x = s.met x := by unfold St.mark; simp [h]
theorem bareR_mark {s s' : St} (h : BareR U s s') (m : Mark) : BareR U (s.mark m) (s'.mark m) := by
  refine ⟨fun n hn h7 pl b => ?_, h.2⟩
  by_cases e : (n.ad, pl, b) = m
  · rw [e]; exact ⟨fun h => absurd h (met_self s m), fun h => absurd h (met_self s' m)⟩
  · rw [met_other e, met_other e]; exact h.1 n hn h7 pl b
theorem bareR_left {s s' : St} (h : BareR U s s') {m : Mark} (hm : ∀ n ∈ U, n.kind ≠ 7 → ∀ pl b, (n.ad, pl, b) ≠ m) : BareR U (s.mark m) s' :=
  ⟨fun n hn h7 pl b => by rw [met_other (hm n hn h7 pl b)]; exact h.1 n hn h7 pl b, h.2⟩
theorem bareR_right {s s' : St} (h : BareR U s s') {m : Mark} (hm : s'.met m ≠ 0) : BareR U s (s'.mark m) := by
  refine ⟨fun n hn h7 pl b => ?_, h.2⟩
  by_cases e : (n.ad, pl, b) = m
  · rw [h.1 n hn h7 pl b, e]; exact ⟨fun h => absurd h hm, fun h => absurd h (met_self s' m)⟩
  · rw [met_other e]; exact h.1 n hn h7 pl b
theorem sub_less {n m : Un} {l : List Un} (h : n.subs = m :: l) : m.all.length < n.all.length := by
  rw [all_subs n, h, allU, List.length_cons, List.length_append]; omega
/-- A node that was begun is left. -/
theorem skip_bare (hinj : ∀ a ∈ U, ∀ b ∈ U, a.ad = b.ad → a = b) (hU : Closed U) (hone : ∀ n ∈ U, n.kind = 7 → n.subs ≠ []) {s s' : St} (hr : BareR U s s') {n : Un} (hn : n ∈ U) {pl : Nat} (hi : GInv U (some (n.ad, pl)) s) :
    ∀ m : Un, m ∈ U → m.all.length < n.all.length → s.met (m.ad, pl, false) ≠ 0 → ∀ nt K, ∃ s1', One t at_ s' (.beg (bareN m) pl nt K) s1' ∧ BareR U s s1' := by
  intro m
  induction m using Un.ind with
  | h m ih =>
    intro hm hlt hmet nt K
    by_cases h7 : m.kind = 7
    · obtain ⟨x, l, hs⟩ : ∃ x l, m.subs = x :: l := List.exists_cons_of_ne_nil (hone m hm h7)
      have hx : x ∈ U := hU m hm x (by rw [hs]; simp)
      rw [bareN_grp h7 hs]
      have hlx := sub_less hs
      refine ih x (by rw [hs]; simp) hx (by omega) ?_ nt K
      refine (hi m hm h7 x l hs pl hmet).resolve_right fun e => ?_
      simp only [Option.some.injEq, Prod.mk.injEq, and_true] at e
      have := hinj n hn x hx e
      rw [this] at hlt
      omega
    · have hmet' : s'.met (m.ad, pl, false) ≠ 0 := fun e => hmet ((hr.1 m hm h7 pl false).2 e)
      refine ⟨s'.mark (m.ad, pl, false), .mk ?_, bareR_right hr hmet'⟩
      have had : (bareN m).ad = m.ad := by rw [bareN_eq h7]; rfl
      simp only [work, had]
      rw [if_neg hmet']
      exact .nil
theorem plain_beg {k : Task} {n : Un} {pl : Nat} {K : Kt} (h : k.plain = .beg n pl [] K) : ∃ nt, k = .beg n pl nt K := by
  cases k with
  | beg n' pl' nt K' => simp only [Task.plain, Task.beg.injEq, true_and] at h; obtain ⟨rfl, rfl, rfl⟩ := h; exact ⟨nt, rfl⟩
  | dcd n' pl' nt K' => cases h
  | go K' pl' nt => cases h
theorem plain_dcd {k : Task} {n : Un} {pl : Nat} {K : Kt} (h : k.plain = .dcd n pl [] K) : ∃ nt, k = .dcd n pl nt K := by
  cases k with
  | beg n' pl' nt K' => cases h
  | dcd n' pl' nt K' => simp only [Task.plain, Task.dcd.injEq, true_and] at h; obtain ⟨rfl, rfl, rfl⟩ := h; exact ⟨nt, rfl⟩
  | go K' pl' nt => cases h
theorem plain_go {k : Task} {pl : Nat} {K : Kt} (h : k.plain = .go K pl []) : ∃ nt, k = .go K pl nt := by
  cases k with
  | beg n' pl' nt K' => cases h
  | dcd n' pl' nt K' => cases h
  | go K' pl' nt => simp only [Task.plain, Task.go.injEq, and_true] at h; obtain ⟨rfl, rfl⟩ := h; exact ⟨nt, rfl⟩
theorem many_one {s s1 : St} {k : Task} (h : Many t at_ s [k] s1) : One t at_ s k s1 := by
  cases h with
  | cons h1 h2 => cases h2; exact h1
theorem any_fst {o : List (Nat × List Int)} {pl : Nat} : (o.any fun p => p.1 == pl) = (o.map (·.1)).any (· == pl) := by rw [List.any_map]; rfl
mutual
theorem bare_one_run (hinj : ∀ a ∈ U, ∀ b ∈ U, a.ad = b.ad → a = b) (hU : Closed U) (hone : ∀ n ∈ U, n.kind = 7 → n.subs ≠ []) : ∀ {s s1 : St} {k : Task}, One t at_ s k s1 → k.nice U → GInv U (pOf k) s → ∀ {s' : St} {k' : Task}, BareR U s s' → k'.plain = bareT k → ∃ s1', One t at_ s' k' s1' ∧ BareR U s1 s1' ∧ GInv U none s1
  | s, s1, .beg n pl nt K, .mk h, hk, hi, s', k', hr, hp => by
    have hwn := work_nice (t := t) (at_ := at_) hU (s := s) hk
    have IH := fun {s' : St} {l' : List Task} => bare_many_run hinj hU hone h hwn (s' := s') (l' := l')
    obtain ⟨nt2, rfl⟩ := plain_beg hp
    by_cases h7 : n.kind = 7
    · obtain ⟨m, l, hs⟩ : ∃ x l, n.subs = x :: l := List.exists_cons_of_ne_nil (hone n hk.1 h7)
      have hm : m ∈ U := hU n hk.1 m (by rw [hs]; simp)
      have hne : ∀ x ∈ U, x.kind ≠ 7 → ∀ p b, (x.ad, p, b) ≠ (n.ad, pl, false) := fun x hx hx7 p b e => by
        simp only [Prod.mk.injEq] at e
        exact hx7 (hinj x hx n hk.1 e.1 ▸ h7)
      have hr2 := bareR_left hr hne
      by_cases h0 : s.met (n.ad, pl, false) = 0
      · have hw2 : (work t at_ s (.beg n pl nt K)).2 = [.beg m pl (nt.set (2 * n.ix).toNat pl) (.grp n.ix K)] := by
          simp only [work]
          rw [if_pos h0]
          unfold first
          rw [if_neg (by rw [h7]; decide), if_neg (by rw [h7]; decide), if_neg (by rw [h7]; decide), if_neg (by rw [h7]; decide), if_neg (by rw [h7]; decide), if_pos h7, hs]
        obtain ⟨s1', g1, g2, g3⟩ := IH (s' := s') (l' := [.beg (bareN n) pl nt2 (bareK K)]) (by
          rw [hw2]
          intro x hx hx7 y q hxs p hmet
          simp only [work] at hmet ⊢
          by_cases e : x.ad = n.ad ∧ p = pl
          · obtain rfl := hinj x hx n hk.1 e.1
            rw [hs] at hxs
            injection hxs with e1 e2
            subst e1
            exact .inr (by rw [e.2]; rfl)
          · rw [met_other (by simp only [ne_eq, Prod.mk.injEq, and_true]; exact e)] at hmet
            refine .inl ?_
            rcases hi x hx hx7 y q hxs p hmet with g | g
            · exact met_mark g
            · simp only [pOf, Option.some.injEq, Prod.mk.injEq] at g
              rw [← g.1, ← g.2]
              exact met_self _ _) hr2 (by rw [hw2]; simp only [List.map_cons, List.map_nil, bareT, Task.plain, bareK]; rw [bareN_grp h7 hs])
        exact ⟨s1', many_one g1, g2, g3⟩
      · have hs1 : s1 = s.mark (n.ad, pl, false) := by
          have h2 := h
          simp only [work] at h2
          rw [if_neg h0] at h2
          cases h2
          rfl
        subst hs1
        have hlt := sub_less hs
        have hmm : s.met (m.ad, pl, false) ≠ 0 := (hi n hk.1 h7 m l hs pl h0).resolve_right fun e => by
          simp only [pOf, Option.some.injEq, Prod.mk.injEq, and_true] at e
          have := hinj n hk.1 m hm e
          rw [← this] at hlt
          omega
        obtain ⟨s1', g1, g2⟩ := skip_bare (t := t) (at_ := at_) hinj hU hone hr hk.1 hi m hm hlt hmm nt2 (bareK K)
        rw [← bareN_grp h7 hs] at g1
        refine ⟨s1', g1, bareR_left g2 hne, fun x hx hx7 y q hxs p hmet => .inl ?_⟩
        have hmet2 : s.met (x.ad, p, false) ≠ 0 := by
          by_cases e : x.ad = n.ad ∧ p = pl
          · rw [e.1, e.2]; exact h0
          · rwa [met_other (by simp only [ne_eq, Prod.mk.injEq, and_true]; exact e)] at hmet
        rcases hi x hx hx7 y q hxs p hmet2 with g | g
        · exact met_mark g
        · simp only [pOf, Option.some.injEq, Prod.mk.injEq] at g
          rw [← g.1, ← g.2]
          exact met_self _ _
    · have had : (bareN n).ad = n.ad := by rw [bareN_eq h7]; rfl
      have hgi : GInv U none (s.mark (n.ad, pl, false)) := fun x hx hx7 y q hxs p hmet => .inl (by
        rw [met_other (by simp only [ne_eq, Prod.mk.injEq, and_true]; exact fun e => h7 (hinj x hx n hk.1 e.1 ▸ hx7))] at hmet
        rcases hi x hx hx7 y q hxs p hmet with g | g
        · exact met_mark g
        · simp only [pOf, Option.some.injEq, Prod.mk.injEq] at g
          rw [← g.1, ← g.2]
          exact met_self _ _)
      have hr2 := bareR_mark hr (n.ad, pl, false)
      obtain ⟨s1', g1, g2, g3⟩ := IH (s' := s'.mark (n.ad, pl, false)) (l' := (work t at_ s' (.beg (bareN n) pl nt2 (bareK K))).2) (GInv.weak hgi _) hr2 (by
        simp only [work, had]
        by_cases h0 : s.met (n.ad, pl, false) = 0
        · rw [if_pos h0, if_pos ((hr.1 n hk.1 h7 pl false).1 h0)]
          exact first_bare h7 pl nt nt2 K
        · rw [if_neg h0, if_neg fun e => h0 ((hr.1 n hk.1 h7 pl false).2 e)]
          rfl)
      exact ⟨s1', .mk (by rw [show (work t at_ s' (.beg (bareN n) pl nt2 (bareK K))).1 = s'.mark (n.ad, pl, false) from by simp only [work, had]]; exact g1), g2, g3⟩
  | s, s1, .dcd n pl nt K, .mk h, hk, hi, s', k', hr, hp => by
    have hwn := work_nice (t := t) (at_ := at_) hU (s := s) hk
    have IH := fun {s' : St} {l' : List Task} => bare_many_run hinj hU hone h hwn (s' := s') (l' := l')
    obtain ⟨nt2, rfl⟩ := plain_dcd hp
    have h7 := hk.2.1
    have had : (bareN n).ad = n.ad := by rw [bareN_eq h7]; rfl
    have hgi : GInv U none (s.mark (n.ad, pl, true)) := fun x hx hx7 y q hxs p hmet => .inl (by
      rw [met_other (by simp)] at hmet
      exact met_mark ((hi x hx hx7 y q hxs p hmet).resolve_right (by simp [pOf])))
    obtain ⟨s1', g1, g2, g3⟩ := IH (s' := s'.mark (n.ad, pl, true)) (l' := (work t at_ s' (.dcd (bareN n) pl nt2 (bareK K))).2) (GInv.weak hgi _) (bareR_mark hr (n.ad, pl, true)) (by
      simp only [work, had]
      by_cases h0 : s.met (n.ad, pl, true) = 0
      · rw [if_pos h0, if_pos ((hr.1 n hk.1 h7 pl true).1 h0)]
        exact choose_bare h7 pl nt nt2 (.dec n K) K
      · rw [if_neg h0, if_neg fun e => h0 ((hr.1 n hk.1 h7 pl true).2 e)]
        rfl)
    exact ⟨s1', .mk (by rw [show (work t at_ s' (.dcd (bareN n) pl nt2 (bareK K))).1 = s'.mark (n.ad, pl, true) from by simp only [work, had]]; exact g1), g2, g3⟩
  | s, s1, .go .top pl nt, .mk h, hk, hi, s', k', hr, hp => by
    obtain ⟨nt2, rfl⟩ := plain_go hp
    have h2 := h
    simp only [work] at h2
    cases h2
    refine ⟨ended at_ s' pl nt2, .mk .nil, ?_, ?_⟩
    · have ho : (s.out.any fun p => p.1 == pl) = (s'.out.any fun p => p.1 == pl) := by rw [any_fst, any_fst, hr.2]
      unfold ended
      rw [ho]
      split
      · exact hr
      · exact ⟨hr.1, by simp only [List.map_append, hr.2]; rfl⟩
    · have : ∀ m, (ended at_ s pl nt).met m = s.met m := fun m => by unfold ended; split <;> rfl
      intro x hx hx7 y q hxs p hmet
      rw [this] at hmet ⊢
      exact hi x hx hx7 y q hxs p hmet
  | s, s1, .go (.row l K) pl nt, .mk h, hk, hi, s', k', hr, hp => by
    have hwn := work_nice (t := t) (at_ := at_) hU (s := s) hk
    obtain ⟨nt2, rfl⟩ := plain_go hp
    obtain ⟨s1', g1, g2, g3⟩ := bare_many_run hinj hU hone h hwn (s' := s') (l' := [rowT (l.map bareN) pl nt2 (bareK K)]) (GInv.weak hi _) hr (by simp only [work, List.map_cons, List.map_nil, rowT_bare l pl nt nt2 K])
    exact ⟨s1', .mk g1, g2, g3⟩
  | s, s1, .go (.grp i K) pl nt, .mk h, hk, hi, s', k', hr, hp => by
    have hwn := work_nice (t := t) (at_ := at_) hU (s := s) hk
    obtain ⟨nt2, rfl⟩ := plain_go hp
    obtain ⟨s1', g1, g2, g3⟩ := bare_many_run hinj hU hone h hwn (s' := s') (l' := [.go (bareK K) pl nt2]) (GInv.weak hi _) hr (by simp only [work, List.map_cons, List.map_nil, bareT, Task.plain])
    exact ⟨s1', many_one g1, g2, g3⟩
  | s, s1, .go (.dec n K) pl nt, .mk h, hk, hi, s', k', hr, hp => by
    have hwn := work_nice (t := t) (at_ := at_) hU (s := s) hk
    obtain ⟨nt2, rfl⟩ := plain_go hp
    obtain ⟨s1', g1, g2, g3⟩ := bare_many_run hinj hU hone h hwn (s' := s') (l' := [.dcd (bareN n) pl nt2 (bareK K)]) (GInv.weak hi _) hr (by simp only [work, List.map_cons, List.map_nil, bareT, Task.plain])
    exact ⟨s1', .mk g1, g2, g3⟩
theorem bare_many_run (hinj : ∀ a ∈ U, ∀ b ∈ U, a.ad = b.ad → a = b) (hU : Closed U) (hone : ∀ n ∈ U, n.kind = 7 → n.subs ≠ []) : ∀ {s s1 : St} {l : List Task}, Many t at_ s l s1 → (∀ k ∈ l, k.nice U) → GInv U (pL l) s → ∀ {s' : St} {l' : List Task}, BareR U s s' → l'.map Task.plain = l.map bareT → ∃ s1', Many t at_ s' l' s1' ∧ BareR U s1 s1' ∧ GInv U none s1
  | s, _, [], .nil, _, hi, s', l', hr, hp => by
    obtain rfl : l' = [] := by cases l' with | nil => rfl | cons a b => cases hp
    exact ⟨s', .nil, hr, hi⟩
  | s, s1, k :: l, .cons h1 h2, hk, hi, s', l', hr, hp => by
    obtain ⟨k', q, rfl⟩ : ∃ k' q, l' = k' :: q := by cases l' with | nil => cases hp | cons a b => exact ⟨a, b, rfl⟩
    rw [List.map_cons, List.map_cons] at hp
    injection hp with e1 e2
    obtain ⟨sa, g1, g2, g3⟩ := bare_one_run hinj hU hone h1 (hk k List.mem_cons_self) hi hr e1
    obtain ⟨sb, g4, g5, g6⟩ := bare_many_run hinj hU hone h2 (fun x hx => hk x (List.mem_cons_of_mem _ hx)) (GInv.weak g3 _) g2 e2
    exact ⟨sb, .cons g1 g4, g5, g6⟩
end
end
/-- Without its groups a tree has the same Ends, in the same order. -/
theorem bare_out {t : List Int} {at_ pl : Nat} {u v : Un} (hs : shU v = bareU (shU u)) (hu : (u.all.map Un.ad).Nodup) (hv : (v.all.map Un.ad).Nodup) (hcl : Closed u.all) (hclv : Closed v.all) (hone : ∀ n ∈ u.all, n.kind = 7 → n.subs ≠ []) (hpl : pl ≤ t.length) {nt nt' : List Int} {a b : St} (ha : One t at_ st0 (.beg u pl nt .top) a) (hb : One t at_ st0 (.beg v pl nt' .top) b) : a.out.map (·.1) = b.out.map (·.1) := by
  have hself : u ∈ u.all := by rw [all_subs]; exact List.mem_cons_self
  have hinj : ∀ a ∈ u.all, ∀ b ∈ u.all, a.ad = b.ad → a = b := fun x hx y hy e => nodup_one hu hx hy e
  obtain ⟨s1, h1, h2, -⟩ := bare_one_run (U := u.all) hinj hcl hone ha ⟨hself, trivial⟩ (fun n hn h7 m l hs pl hm => absurd rfl hm) (s' := st0) (k' := .beg (bareN u) pl nt' .top) ⟨fun _ _ _ _ _ => Iff.rfl, rfl⟩ rfl
  have := same_out (u := v) (v := bareN u) (by rw [bareN_sh, hs]) hv (hu.sublist (bareN_all u)) hclv hpl hb h1
  rw [h2.2, this]
end Mean
end Go.Proofs.Ytjeljlgjkjeloaa
