/- The program of a simple tree: how long it is, that it may be. No program here. -/
import Derived.Test.YtfgelkfnbohmmaaQSimp
import Derived.Test.YtfgelkfnbohmmaaQMemB
namespace Go.Proofs.Ytfgelkfnbohmmaa.Tr
open Go.Proofs.Ytfgelkfnbohmmaa.Mach

mutual
/-- How many instructions a tree's code has. -/
def lenS : Tr → Nat
  | .mk k _ _ l n m _ _ _ =>
    if k = 2 ∨ k = 3 then 1
    else if k = 7 then lensS l + 2
    else if k = 5 then lensS l + 2 * (l.length - 1)
    else if k = 6 then lensS l + (if n = 1 then 1 else if m < 0 then 2 else 1)
    else lensS l
def lensS : List Tr → Nat
  | [] => 0
  | t :: l => lenS t + lensS l
end
/-- Which way first. -/
def altI (z : Bool) (x y : Nat) : Ins := if z then ⟨2, y, x, 0, []⟩ else ⟨2, x, y, 0, []⟩
mutual
/-- A tree's code, from a number on. -/
def codeS : Tr → Nat → List Ins
  | .mk k r a l n m z i _, b =>
    if k = 2 then (if r = [] then [⟨6, 0, 0, 0, []⟩] else [⟨1, (b + 1 : Nat), 0, 0, r⟩])
    else if k = 3 then [⟨4, (b + 1 : Nat), 0, a, []⟩]
    else if k = 7 then ⟨3, (b + 1 : Nat), 0, 2 * i, []⟩ :: (codesS l (b + 1) ++ [⟨3, (b + 1 + lensS l + 1 : Nat), 0, 2 * i + 1, []⟩])
    else if k = 5 then altS l b (b + (lensS l + 2 * (l.length - 1)))
    else if k = 6 then
      (if n = 1 then codesS l b ++ [altI z b (b + lensS l + 1)]
       else if m < 0 then altI z (b + 1) (b + 1 + lensS l + 1) :: (codesS l (b + 1) ++ [⟨7, (b : Nat), 0, 0, []⟩])
       else altI z (b + 1) (b + 1 + lensS l) :: codesS l (b + 1))
    else codesS l b
def codesS : List Tr → Nat → List Ins
  | [], _ => []
  | t :: l, b => codeS t b ++ codesS l (b + lenS t)
/-- Alternatives, up to the end e. -/
def altS : List Tr → Nat → Nat → List Ins
  | [], _, _ => []
  | t :: l, b, e => if l.isEmpty then codeS t b else ⟨2, (b + 1 : Nat), (b + 1 + lenS t + 1 : Nat), 0, []⟩ :: (codeS t (b + 1) ++ ⟨7, (e : Nat), 0, 0, []⟩ :: altS l (b + 1 + lenS t + 1) e)
end
/-- The program. -/
def progL (s : Tr) : List Ins := ⟨3, (1 : Nat), 0, 0, []⟩ :: (codeS s 1 ++ [⟨3, (lenS s + 2 : Nat), 0, 1, []⟩, ⟨5, 0, 0, 0, []⟩])
theorem codes_length (l : List Tr) (ih : ∀ s ∈ l, ∀ b, (codeS s b).length = lenS s) : ∀ b, (codesS l b).length = lensS l := by
  induction l with
  | nil => intro b; rfl
  | cons t l ihl =>
    intro b
    rw [codesS, lensS, List.length_append, ih t List.mem_cons_self, ihl fun s hs => ih s (List.mem_cons_of_mem _ hs)]
theorem alt_length (l : List Tr) (ih : ∀ s ∈ l, ∀ b, (codeS s b).length = lenS s) : ∀ b e, (altS l b e).length = lensS l + 2 * (l.length - 1) := by
  induction l with
  | nil => intro b e; rfl
  | cons t l ihl =>
    intro b e
    have h := ihl fun s hs => ih s (List.mem_cons_of_mem _ hs)
    rw [altS, lensS, List.length_cons]
    cases l with
    | nil => simp [ih t List.mem_cons_self, lensS]
    | cons u l =>
      rw [if_neg (by simp), List.length_cons, List.length_append, List.length_cons, ih t List.mem_cons_self, h]
      simp only [List.length_cons]
      omega
theorem code_length : ∀ (t : Tr) (b : Nat), (codeS t b).length = lenS t := by
  intro t
  induction t using Tr.ind with
  | h t ih =>
    intro b
    cases t with
    | mk k r a l n m z i s =>
      have h1 := codes_length l ih
      have h2 := alt_length l ih
      rw [codeS, lenS]
      by_cases k2 : k = 2
      · rw [if_pos k2, if_pos (show k = 2 ∨ k = 3 from .inl k2)]; split <;> rfl
      by_cases k3 : k = 3
      · rw [if_neg k2, if_pos k3, if_pos (show k = 2 ∨ k = 3 from .inr k3)]; rfl
      rw [if_neg k2, if_neg k3, if_neg (show ¬ (k = 2 ∨ k = 3) from fun h => h.elim k2 k3)]
      by_cases k7 : k = 7
      · rw [if_pos k7, if_pos k7, List.length_cons, List.length_append, h1]; simp
      rw [if_neg k7, if_neg k7]
      by_cases k5 : k = 5
      · rw [if_pos k5, if_pos k5, h2]
      rw [if_neg k5, if_neg k5]
      by_cases k6 : k = 6
      · rw [if_pos k6, if_pos k6]
        by_cases hn : n = 1
        · rw [if_pos hn, if_pos hn, List.length_append, h1]; simp
        rw [if_neg hn, if_neg hn]
        by_cases hm : m < 0
        · rw [if_pos hm, if_pos hm, List.length_cons, List.length_append, h1]; simp
        · rw [if_neg hm, if_neg hm, List.length_cons, h1]
      · rw [if_neg k6, if_neg k6]
        exact h1 b
theorem lens_le (l : List Tr) (ih : ∀ s ∈ l, lenS s + 2 ≤ 3 * size s) : lensS l + 2 * l.length ≤ 3 * sizes l := by
  induction l with
  | nil => simp [lensS, sizes]
  | cons t l ihl =>
    have h1 := ih t List.mem_cons_self
    have h2 := ihl fun s hs => ih s (List.mem_cons_of_mem _ hs)
    rw [lensS, sizes, List.length_cons]
    omega
theorem len_le : ∀ t : Tr, allB t = true → lenS t + 2 ≤ 3 * size t := by
  intro t
  induction t using Tr.ind with
  | h t ih =>
    intro h
    cases kinds h with
    | empty => decide
    | cls r hr => rw [lenS, if_pos (show (2 : Int) = 2 ∨ (2 : Int) = 3 from .inl rfl), size, sizes]; omega
    | ass a ha => rw [lenS, if_pos (show (3 : Int) = 2 ∨ (3 : Int) = 3 from .inr rfl), size, sizes]; omega
    | cat l h2 hs =>
      have h1 := lens_le l fun s hs' => ih s hs' (hs s hs')
      rw [catT, lenS, size, if_neg (by decide), if_neg (by decide), if_neg (by decide), if_neg (by decide)]
      omega
    | alt l h2 hs =>
      have h1 := lens_le l fun s hs' => ih s hs' (hs s hs')
      rw [altT, lenS, size, if_neg (by decide), if_neg (by decide), if_pos rfl]
      omega
    | rep x n m z hx h0 h1 hm =>
      have h1 := lens_le [x] fun s hs' => ih s hs' (by rw [List.mem_singleton] at hs'; rw [hs']; exact hx)
      rw [List.length_singleton] at h1
      rw [repT, lenS, size, if_neg (by decide), if_neg (by decide), if_neg (by decide), if_pos rfl]
      split
      · omega
      · split <;> omega
    | group x i s hx h0 h1 hm =>
      have h1 := lens_le [x] fun s hs' => ih s hs' (by rw [List.mem_singleton] at hs'; rw [hs']; exact hx)
      rw [List.length_singleton] at h1
      rw [groupT, lenS, size, if_neg (by decide), if_pos rfl]
      omega
theorem prog_length (s : Tr) : (progL s).length = lenS s + 3 := by
  unfold progL
  rw [List.length_cons, List.length_append, code_length]; simp
theorem prog_le {s : Tr} (h : allB s = true) : (progL s).length ≤ 3 * size s + 3 := by
  have := len_le s h
  rw [prog_length]; omega
mutual
def greatest : Tr → Int
  | .mk _ _ _ l _ _ _ i _ => greatests l i
def greatests : List Tr → Int → Int
  | [], g => g
  | t :: l, g => greatests l (max g (greatest t))
end
theorem greatests_ge : ∀ (l : List Tr) (g : Int), g ≤ greatests l g ∧ ∀ t ∈ l, greatest t ≤ greatests l g
  | [], g => ⟨Int.le_refl _, by simp⟩
  | t :: l, g => by
    obtain ⟨h1, h2⟩ := greatests_ge l (max g (greatest t))
    rw [greatests]
    refine ⟨by omega, fun u hu => ?_⟩
    rcases List.mem_cons.1 hu with rfl | hu
    · omega
    · exact h2 u hu
theorem greatests_le : ∀ (l : List Tr) (g c : Int), g ≤ c → (∀ t ∈ l, greatest t ≤ c) → greatests l g ≤ c
  | [], g, c, h, _ => h
  | t :: l, g, c, h, hl => by
    rw [greatests]
    exact greatests_le l _ c (by have := hl t List.mem_cons_self; omega) fun u hu => hl u (List.mem_cons_of_mem _ hu)
theorem occs_mem {l : List Tr} {u : Lab} (h : u ∈ occs l) : ∃ t ∈ l, u ∈ occ t := by
  induction l with
  | nil => cases h
  | cons t l ih =>
    rw [occs] at h
    rcases List.mem_append.1 h with h | h
    · exact ⟨t, List.mem_cons_self, h⟩
    · obtain ⟨x, hx, h⟩ := ih h
      exact ⟨x, List.mem_cons_of_mem _ hx, h⟩
theorem mem_occs {l : List Tr} {t : Tr} {u : Lab} (ht : t ∈ l) (h : u ∈ occ t) : u ∈ occs l := by
  induction l with
  | nil => cases ht
  | cons x l ih =>
    rw [occs]
    rcases List.mem_cons.1 ht with rfl | ht
    · exact List.mem_append_left _ h
    · exact List.mem_append_right _ (ih ht)
theorem occ_great : ∀ (t : Tr) (u : Lab), u ∈ occ t → u.1 ≤ greatest t := by
  intro t
  induction t using Tr.ind with
  | h t ih =>
    intro u hu
    cases t with
    | mk k r a l n m z i s =>
      rw [occ] at hu
      rw [greatest]
      obtain ⟨h1, h2⟩ := greatests_ge l i
      split at hu
      · cases hu
      · rcases List.mem_append.1 hu with hu | hu
        · split at hu
          · rw [List.mem_singleton] at hu
            rw [hu]; exact h1
          · cases hu
        · obtain ⟨x, hx, hu⟩ := occs_mem hu
          exact Int.le_trans (ih x hx u hu) (h2 x hx)
theorem sound_great : ∀ t : Tr, allB t = true → 0 ≤ greatest t ∧ greatest t ≤ 500 ∧ ∀ u ∈ occ t, 1 ≤ u.1 := by
  intro t
  induction t using Tr.ind with
  | h t ih =>
    intro h
    have hl : ∀ (l : List Tr) (g : Int), 0 ≤ g → g ≤ 500 → (∀ s ∈ l, allB s = true) → (∀ s ∈ l, allB s = true → 0 ≤ greatest s ∧ greatest s ≤ 500 ∧ ∀ u ∈ occ s, 1 ≤ u.1) → 0 ≤ greatests l g ∧ greatests l g ≤ 500 ∧ ∀ u ∈ occs l, 1 ≤ u.1 := by
      intro l g h0 h1 hs ih
      refine ⟨Int.le_trans h0 (greatests_ge l g).1, greatests_le l g 500 h1 fun t ht => (ih t ht (hs t ht)).2.1, fun u hu => ?_⟩
      obtain ⟨x, hx, hu⟩ := occs_mem hu
      exact (ih x hx (hs x hx)).2.2 u hu
    cases kinds h with
    | empty => exact ⟨by decide, by decide, by intro u hu; cases hu⟩
    | cls r hr => exact ⟨Int.le_refl 0, show (0 : Int) ≤ 500 by decide, by intro u hu; cases hu⟩
    | ass a ha => exact ⟨Int.le_refl 0, show (0 : Int) ≤ 500 by decide, by intro u hu; cases hu⟩
    | cat l h2 hs => rw [occ_cat]; exact hl l 0 (by decide) (by decide) hs ih
    | alt l h2 hs => rw [occ_alt]; exact hl l 0 (by decide) (by decide) hs ih
    | rep x n m z hx h0 h1 hm =>
      have := hl [x] 0 (by decide) (by decide) (by intro s hs; rw [List.mem_singleton] at hs; rw [hs]; exact hx) ih
      refine ⟨this.1, this.2.1, fun u hu => ?_⟩
      rw [repT, occ] at hu
      split at hu
      · cases hu
      · rw [if_neg (by decide), List.nil_append] at hu
        exact this.2.2 u hu
    | group x i s hx h0 h1 hm =>
      have := hl [x] i (by omega) h1 (by intro s hs; rw [List.mem_singleton] at hs; rw [hs]; exact hx) ih
      refine ⟨this.1, this.2.1, fun u hu => ?_⟩
      rw [groupT, occ, if_neg (by rintro ⟨h, _⟩; cases h), if_pos rfl] at hu
      rcases List.mem_append.1 hu with hu | hu
      · rw [List.mem_singleton] at hu
        rw [hu]; exact h0
      · exact this.2.2 u hu
/-! ### it may be -/
theorem may_altI {z : Bool} {x y N : Nat} {caps : Int} (hx : x < N) (hy : y < N) : mayB (altI z x y) N caps = true := by
  unfold altI mayB
  cases z <;> simp <;> omega
theorem code_may {caps : Int} : ∀ (t : Tr), Good t → (∀ u ∈ occ t, 0 ≤ u.1 ∧ 2 * u.1 + 1 < caps) → ∀ (b N : Nat), b + lenS t < N → ∀ x ∈ codeS t b, mayB x N caps = true := by
  intro t
  induction t using Tr.ind with
  | h t ih =>
    intro hg ho b N hN x hx
    have hs2 := ((simpB_iff t 0).1 hg.2).2.2
    have hcodes : ∀ (l : List Tr), (∀ s ∈ l, Good s) → (∀ s ∈ l, ∀ u ∈ occ s, 0 ≤ u.1 ∧ 2 * u.1 + 1 < caps) → (∀ s ∈ l, Good s → (∀ u ∈ occ s, 0 ≤ u.1 ∧ 2 * u.1 + 1 < caps) → ∀ (b N : Nat), b + lenS s < N → ∀ x ∈ codeS s b, mayB x N caps = true) → ∀ b : Nat, b + lensS l < N → ∀ x ∈ codesS l b, mayB x N caps = true := by
      intro l
      induction l with
      | nil => intro _ _ _ b _ x hx; cases hx
      | cons t l ihl =>
        intro h1 h2 h3 b hb x hx
        rw [lensS] at hb
        rw [codesS] at hx
        rcases List.mem_append.1 hx with hx | hx
        · exact h3 t List.mem_cons_self (h1 t List.mem_cons_self) (h2 t List.mem_cons_self) b N (by omega) x hx
        · exact ihl (fun s hs => h1 s (List.mem_cons_of_mem _ hs)) (fun s hs => h2 s (List.mem_cons_of_mem _ hs)) (fun s hs => h3 s (List.mem_cons_of_mem _ hs)) (b + lenS t) (by omega) x hx
    have halts : ∀ (l : List Tr), (∀ s ∈ l, Good s) → (∀ s ∈ l, ∀ u ∈ occ s, 0 ≤ u.1 ∧ 2 * u.1 + 1 < caps) → (∀ s ∈ l, Good s → (∀ u ∈ occ s, 0 ≤ u.1 ∧ 2 * u.1 + 1 < caps) → ∀ (b N : Nat), b + lenS s < N → ∀ x ∈ codeS s b, mayB x N caps = true) → ∀ b e : Nat, b + (lensS l + 2 * (l.length - 1)) < N → e < N → ∀ x ∈ altS l b e, mayB x N caps = true := by
      intro l
      induction l with
      | nil => intro _ _ _ b e _ _ x hx; cases hx
      | cons t l ihl =>
        intro h1 h2 h3 b e hb he x hx
        rw [lensS, List.length_cons] at hb
        rw [altS] at hx
        cases l with
        | nil =>
          rw [if_pos (show ([] : List Tr).isEmpty = true from rfl)] at hx
          exact h3 t List.mem_cons_self (h1 t List.mem_cons_self) (h2 t List.mem_cons_self) b N (by omega) x hx
        | cons u l =>
          simp only [List.length_cons] at hb
          rw [if_neg (by simp)] at hx
          rcases List.mem_cons.1 hx with rfl | hx
          · unfold mayB; simp; omega
          · rcases List.mem_append.1 hx with hx | hx
            · exact h3 t List.mem_cons_self (h1 t List.mem_cons_self) (h2 t List.mem_cons_self) (b + 1) N (by omega) x hx
            · rcases List.mem_cons.1 hx with rfl | hx
              · unfold mayB; simp; omega
              · exact ihl (fun s hs => h1 s (List.mem_cons_of_mem _ hs)) (fun s hs => h2 s (List.mem_cons_of_mem _ hs)) (fun s hs => h3 s (List.mem_cons_of_mem _ hs)) _ e (by simp only [List.length_cons]; omega) he x hx
    have hgood : ∀ (l : List Tr) (k : Int), (∀ s ∈ l, allB s = true) → (∀ s ∈ l, simpB s k = true) → ∀ s ∈ l, Good s := fun l k h1 h2 s hs => ⟨h1 s hs, simpB_above (h2 s hs) (badIn_far (by decide) (by decide))⟩
    cases kinds hg.1 with
    | empty =>
      rw [emptyT, codeS, if_neg (by decide), if_neg (by decide), if_neg (by decide), if_neg (by decide), if_neg (by decide)] at hx
      cases hx
    | cls r hr =>
      rw [lenS, if_pos (.inl rfl)] at hN
      rw [codeS, if_pos rfl] at hx
      split at hx
      · rw [List.mem_singleton] at hx; subst hx; unfold mayB; simp
      · rename_i hr0
        rw [List.mem_singleton] at hx; subst hx; unfold mayB
        rw [if_pos rfl, Bool.and_eq_true, decide_eq_true_eq]
        exact ⟨⟨by simp only []; omega, by simp only []; omega, rfl, rfl, hr0⟩, hr⟩
    | ass a ha =>
      rw [lenS, if_pos (.inr rfl)] at hN
      rw [codeS, if_neg (by decide), if_pos rfl, List.mem_singleton] at hx
      subst hx
      unfold mayB
      rw [if_neg (by simp), if_neg (by simp), if_neg (by simp), if_pos rfl, Bool.and_eq_true, decide_eq_true_eq]
      exact ⟨⟨by simp only []; omega, by simp only []; omega, rfl, rfl⟩, ha⟩
    | cat l h2 hs =>
      rw [catT, lenS, if_neg (by decide), if_neg (by decide), if_neg (by decide), if_neg (by decide)] at hN
      rw [catT, codeS, if_neg (by decide), if_neg (by decide), if_neg (by decide), if_neg (by decide), if_neg (by decide)] at hx
      rw [occ_cat] at ho
      exact hcodes l (hgood l 4 hs hs2) (fun s hs' u hu => ho u (mem_occs hs' hu)) ih b (by omega) x hx
    | alt l h2 hs =>
      rw [altT, lenS, if_neg (by decide), if_neg (by decide), if_pos rfl] at hN
      rw [altT, codeS, if_neg (by decide), if_neg (by decide), if_neg (by decide), if_pos rfl] at hx
      rw [occ_alt] at ho
      exact halts l (hgood l 5 hs hs2) (fun s hs' u hu => ho u (mem_occs hs' hu)) ih b _ (by omega) (by omega) x hx
    | rep y n m z hy h0 h1 hm =>
      have hb := ((simpB_iff _ 0).1 hg.2).1
      rw [repT, badRep, decide_eq_false_iff_not] at hb
      rw [occ_rep y (by omega)] at ho
      have hgl := hgood [y] 6 (by intro s hs; rw [List.mem_singleton] at hs; rw [hs]; exact hy) hs2
      have hol : ∀ s ∈ [y], ∀ u ∈ occ s, 0 ≤ u.1 ∧ 2 * u.1 + 1 < caps := by intro s hs; rw [List.mem_singleton] at hs; rw [hs]; exact ho
      rw [repT, lenS, if_neg (by decide), if_neg (by decide), if_neg (by decide), if_pos rfl] at hN
      rw [repT, codeS, if_neg (by decide), if_neg (by decide), if_neg (by decide), if_neg (by decide), if_pos rfl] at hx
      split at hx
      · rename_i hn
        rw [if_pos hn] at hN
        rcases List.mem_append.1 hx with hx | hx
        · exact hcodes [y] hgl hol ih b (by omega) x hx
        · rw [List.mem_singleton] at hx; subst hx
          exact may_altI (by omega) (by omega)
      · rename_i hn
        rw [if_neg hn] at hN
        split at hx
        · rename_i hm2
          rw [if_pos hm2] at hN
          rcases List.mem_cons.1 hx with rfl | hx
          · exact may_altI (by omega) (by omega)
          · rcases List.mem_append.1 hx with hx | hx
            · exact hcodes [y] hgl hol ih (b + 1) (by omega) x hx
            · rw [List.mem_singleton] at hx; subst hx
              unfold mayB; simp; omega
        · rename_i hm2
          rw [if_neg hm2] at hN
          rcases List.mem_cons.1 hx with rfl | hx
          · exact may_altI (by omega) (by omega)
          · exact hcodes [y] hgl hol ih (b + 1) (by omega) x hx
    | group y i s hy h0 h1 hm =>
      have hgl := hgood [y] 7 (by intro s hs; rw [List.mem_singleton] at hs; rw [hs]; exact hy) hs2
      have ho2 : (i, s) ∈ occ (groupT y i s) := by rw [groupT, occ, if_neg (by rintro ⟨h, _⟩; cases h), if_pos rfl]; exact List.mem_append_left _ List.mem_cons_self
      have hol : ∀ q ∈ [y], ∀ u ∈ occ q, 0 ≤ u.1 ∧ 2 * u.1 + 1 < caps := by
        intro q hq u hu
        rw [List.mem_singleton] at hq
        rw [hq] at hu
        refine ho u ?_
        rw [groupT, occ, if_neg (by rintro ⟨h, _⟩; cases h), if_pos rfl]
        exact List.mem_append_right _ (mem_occs (l := [y]) List.mem_cons_self hu)
      have hi := ho _ ho2
      simp only [] at hi
      rw [groupT, lenS, if_neg (by decide), if_pos rfl] at hN
      rw [groupT, codeS, if_neg (by decide), if_neg (by decide), if_pos rfl] at hx
      rcases List.mem_cons.1 hx with rfl | hx
      · unfold mayB; simp; omega
      · rcases List.mem_append.1 hx with hx | hx
        · exact hcodes [y] hgl hol ih (b + 1) (by omega) x hx
        · rw [List.mem_singleton] at hx; subst hx
          unfold mayB; simp; omega
/-- A sound tree's program may be, if it is not too long. -/
theorem prog_may {t : Tr} (h : allB t = true) (hl : (progL (simpleS t)).length ≤ 20000) : checkB ⟨progL (simpleS t), 0, 2 + 2 * greatest t⟩ = true := by
  obtain ⟨g0, g1, g2⟩ := sound_great t h
  have hpl := prog_length (simpleS t)
  unfold checkB
  rw [Bool.and_eq_true]
  refine ⟨?_, ?_⟩
  · unfold headB
    rw [decide_eq_true_eq]
    simp only []
    omega
  · rw [List.all_eq_true]
    intro x hx
    simp only [] at hx ⊢
    unfold progL at hx
    rcases List.mem_cons.1 hx with rfl | hx
    · unfold mayB; simp; omega
    · rcases List.mem_append.1 hx with hx | hx
      · refine code_may (simpleS t) (simple_good t h) (fun u hu => ?_) 1 _ (by omega) x hx
        have hu2 := (simple_occ t h u).1 hu
        have := occ_great t u hu2
        have := g2 u hu2
        omega
      · rcases List.mem_cons.1 hx with rfl | hx
        · unfold mayB; simp; omega
        · rw [List.mem_singleton] at hx; subst hx
          unfold mayB; simp
end Go.Proofs.Ytfgelkfnbohmmaa.Tr
