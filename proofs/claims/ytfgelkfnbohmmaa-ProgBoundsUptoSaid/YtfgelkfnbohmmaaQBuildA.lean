/- simplify.simple's closure build: the simple form of every tree that may be and whose form is not too great. -/
import Derived.Test.YtfgelkfnbohmmaaQBdLeaf
import Derived.Test.YtfgelkfnbohmmaaQBdRow
import Derived.Test.YtfgelkfnbohmmaaQBdRep
import Derived.Test.YtfgelkfnbohmmaaQBdGrp
namespace Go.Proofs.Ytfgelkfnbohmmaa
open Go.RowKit Go.Proofs.Ytfgelkfnbohmmaa.Tr

theorem sizes_row (l : List Tr.Tr) : sizes l ≤ size (row l) := by
  match l with
  | [] => simp [sizes]
  | [x] => simp [sizes, row]
  | x :: y :: l => rw [show row (x :: y :: l) = catT (x :: y :: l) from rfl, catT, size]; omega
theorem size_eq (t : Tr.Tr) : size t = sizes t.subs + 1 := by cases t with | mk k r a l n m z i s => rw [size]; rfl
theorem sizes_ap (a b : List Tr.Tr) : sizes (a ++ b) = sizes a + sizes b := by
  induction a with
  | nil => simp [sizes]
  | cons x a ih => rw [List.cons_append, sizes, sizes, ih]; omega
theorem le_row {y : Tr.Tr} (h : allB y = true) (a b : List Tr.Tr) : size y ≤ size (row (a ++ putT y ++ b)) := by
  by_cases k1 : y.kind = 1
  · have h1 : size y = 1 := by
      cases kinds h with
      | empty => rfl
      | cls r hr => simp [Tr.kind] at k1
      | ass q hq => simp [Tr.kind] at k1
      | cat l hc hs => simp [catT, Tr.kind] at k1
      | alt l hc hs => simp [altT, Tr.kind] at k1
      | rep x n m z hx h0 hb hm => simp [repT, Tr.kind] at k1
      | group x i s hx h0 hb hm => simp [groupT, Tr.kind] at k1
    rw [h1]; exact size_pos _
  · by_cases k4 : y.kind = 4
    · have hp : putT y = y.subs := by unfold putT; rw [if_neg k1, if_pos k4]
      have h2 := subs_pos h k4
      rw [hp]
      have hlen : 2 ≤ (a ++ y.subs ++ b).length := by simp; omega
      have hrow : row (a ++ y.subs ++ b) = catT (a ++ y.subs ++ b) := by
        match hq : a ++ y.subs ++ b with
        | [] => rw [hq] at hlen; simp at hlen
        | [x] => rw [hq] at hlen; simp at hlen
        | x :: z :: l => rfl
      have h3 : size (catT (a ++ y.subs ++ b)) = sizes (a ++ y.subs ++ b) + 1 := by rw [catT, size]
      rw [hrow, h3, sizes_ap, sizes_ap, size_eq y]
      omega
    · have hp : putT y = [y] := by unfold putT; rw [if_neg k1, if_neg k4]
      have h3 := sizes_row (a ++ putT y ++ b)
      rw [sizes_ap, sizes_ap, hp] at h3
      rw [hp]
      simp only [sizes] at h3
      omega
theorem le_alt (y : Tr.Tr) (a b : List Tr.Tr) : size y ≤ size (altT (a ++ altPut y ++ b)) := by
  have h3 : size (altT (a ++ altPut y ++ b)) = sizes (a ++ altPut y ++ b) + 1 := by rw [altT, size]
  rw [h3, sizes_ap, sizes_ap]
  unfold altPut
  by_cases k5 : y.kind = 5
  · rw [if_pos k5, size_eq y]; omega
  · rw [if_neg k5]; simp only [sizes]; omega
theorem size_rep (s : Tr.Tr) (mn mx : Int) (z : Bool) : size (repT s mn mx z) = size s + 1 := by rw [repT, size]; simp [sizes]
theorem putT_rep (s : Tr.Tr) (mn mx : Int) (z : Bool) : putT (repT s mn mx z) = [repT s mn mx z] := by simp [putT, repT, Tr.kind]
theorem le_unf {y : Tr.Tr} (h : allB y = true) {mn mx : Int} (z : Bool) (h0 : 0 ≤ mn) (hm : (mx == 0) = false) (hx : mx = -1 ∨ mn ≤ mx) : size y ≤ size (unfoldS y mn mx z) := by
  have hm0 : mx ≠ 0 := by simpa using hm
  unfold unfoldS
  by_cases c1 : mx < 0 ∧ mn = 0
  · rw [if_pos c1, size_rep]; omega
  · rw [if_neg c1]
    by_cases c2 : mx < 0
    · rw [if_pos c2, putT_rep]
      have h3 := sizes_row ((List.replicate (mn - 1).toNat (putT y)).flatten ++ [repT y 1 (-1) z])
      rw [sizes_ap] at h3
      simp only [sizes, size_rep] at h3
      omega
    · rw [if_neg c2]
      by_cases c3 : mn = 0
      · obtain ⟨n, hn⟩ : ∃ n, (mx - mn).toNat = n + 1 := ⟨(mx - mn).toNat - 1, by omega⟩
        rw [hn, optS, putT_rep]
        have h3 := sizes_row ((List.replicate mn.toNat (putT y)).flatten ++ [repT (row (putT y ++ putT (optS y z n))) 0 1 z])
        rw [sizes_ap] at h3
        simp only [sizes, size_rep] at h3
        have h4 := le_row h [] (putT (optS y z n))
        rw [List.nil_append] at h4
        omega
      · obtain ⟨n, hn⟩ : ∃ n, mn.toNat = n + 1 := ⟨mn.toNat - 1, by omega⟩
        have h4 := le_row h (reps (putT y) n) (putT (optS y z (mx - mn).toNat))
        rw [← reps_succ, ← hn] at h4
        exact h4
theorem le_puts {l : List Tr.Tr} (hal : ∀ u ∈ l, allB u = true) {u : Tr.Tr} (hu : u ∈ l) : size (simpleS u) ≤ size (row (putsT l)) := by
  obtain ⟨a, b, rfl⟩ := List.append_of_mem hu
  have e : putsT (a ++ u :: b) = putsT a ++ putT (simpleS u) ++ putsT b := by
    rw [show a ++ u :: b = a ++ [u] ++ b from by simp, putsT_append, putsT_append, putsT_one]
  rw [e]
  exact le_row (simple_good u (hal u hu)).1 _ _
theorem le_alts {l : List Tr.Tr} {u : Tr.Tr} (hu : u ∈ l) : size (simpleS u) ≤ size (altT (altsT l)) := by
  obtain ⟨a, b, rfl⟩ := List.append_of_mem hu
  have e : altsT (a ++ u :: b) = altsT a ++ altPut (simpleS u) ++ altsT b := by
    rw [show a ++ u :: b = a ++ [u] ++ b from by simp, altsT_append, altsT_append, altsT_one]
  rw [e]
  exact le_alt _ _ _
theorem alts_len (l : List Tr.Tr) : (altsT l).length ≤ size (altT (altsT l)) := by
  have h3 : size (altT (altsT l)) = sizes (altsT l) + 1 := by rw [altT, size]
  have := len_sizes (altsT l)
  omega
theorem build_any : ∀ t : Ta, BD t := by
  intro t
  induction t using Ta.ind with
  | h t ih =>
    cases t with
    | mk k r ra rc ast l sa sc mn mx z ix nm =>
    intro S w bc ec h hS hcel hal0 hsz0
    have hal : ∀ u ∈ l, allB u.tr = true := fun u hu => ((allB_iff _).1 hal0).2 u.tr (by rw [Ta.tr_subs]; exact List.mem_map_of_mem hu)
    have hih : ∀ u ∈ l, BD u := fun u hu => ih u hu
    have hmem : ∀ u ∈ l, u.tr ∈ trs l := fun u hu => by rw [trs_map]; exact List.mem_map_of_mem hu
    have halt : ∀ u ∈ trs l, allB u = true := fun u hu => by rw [trs_map] at hu; obtain ⟨x, hx, rfl⟩ := List.mem_map.1 hu; exact hal x hx
    have hlen := trs_length l
    simp only [Ta.tr] at hal0
    have htr : (Ta.mk k r ra rc ast l sa sc mn mx z ix nm).tr = .mk k r ast (trs l) mn mx z ix nm := by rw [Ta.tr]
    rw [htr] at hsz0 ⊢
    clear ih
    rw [simpleS, simplesS_map] at hsz0 ⊢
    by_cases k7 : k = 7
    · rw [if_pos k7] at hsz0 ⊢
      have hl1 : l.length = 1 := by
        subst k7
        generalize trs l = L at *
        cases kinds hal0 with
        | group x i s hx h0 hb hm => simpa using hlen.symm
      have hsz : ∀ u ∈ l, size (simpleS u.tr) ≤ 200000 := fun u hu => by
        match l, hl1, hu with
        | [x], _, hu =>
          simp at hu; subst hu
          simp only [trs, List.map_cons, List.headD_cons] at hsz0
          rw [groupT, size] at hsz0
          simp only [sizes] at hsz0
          omega
      exact bd_group k r ra rc ast l sa sc mn mx z ix nm S w bc ec h hS hcel (by simpa using k7) hl1 hih hal hsz
    · rw [if_neg k7] at hsz0 ⊢
      have k7' : (k == 7) = false := by simpa using k7
      by_cases k4 : k = 4
      · rw [if_pos k4] at hsz0 ⊢
        have hsz : ∀ u ∈ l, size (simpleS u.tr) ≤ 200000 := fun u hu => Nat.le_trans (le_puts halt (hmem u hu)) hsz0
        exact bd_cat k r ra rc ast l sa sc mn mx z ix nm S w bc ec h hS hcel k7' (by simpa using k4) hih hal hsz (Nat.le_trans (row_len (putsT (trs l))) hsz0)
      · rw [if_neg k4] at hsz0 ⊢
        have k4' : (k == 4) = false := by simpa using k4
        by_cases k5 : k = 5
        · rw [if_pos k5] at hsz0 ⊢
          have hsz : ∀ u ∈ l, size (simpleS u.tr) ≤ 200000 := fun u hu => Nat.le_trans (le_alts (hmem u hu)) hsz0
          exact bd_alt k r ra rc ast l sa sc mn mx z ix nm S w bc ec h hS hcel k7' k4' (by simpa using k5) hih hal hsz (Nat.le_trans (alts_len (trs l)) hsz0)
        · rw [if_neg k5] at hsz0 ⊢
          have k5' : (k == 5) = false := by simpa using k5
          by_cases k6 : k = 6
          · rw [if_pos k6] at hsz0 ⊢
            have hrep : l.length = 1 ∧ 0 ≤ mn ∧ mn ≤ 1000 ∧ (mx = -1 ∨ (mn ≤ mx ∧ mx ≤ 1000)) := by
              subst k6
              generalize trs l = L at *
              cases kinds hal0 with
              | rep x n m z hx h0 hb hm => exact ⟨by simpa using hlen.symm, h0, hb, hm⟩
            obtain ⟨hl1, h0, h1, hx⟩ := hrep
            by_cases hm : mx = 0
            · rw [if_pos hm]
              exact bd_zero k r ra rc ast l sa sc mn mx z ix nm S w bc ec h hS hcel k7' k4' k5' (by simpa using k6) (by simpa using hm)
            · rw [if_neg hm] at hsz0 ⊢
              have hsz : ∀ u ∈ l, size (simpleS u.tr) ≤ 200000 := fun u hu => by
                match l, hl1, hu with
                | [x], _, hu =>
                  simp at hu; subst hu
                  simp only [trs, List.map_cons, List.headD_cons] at hsz0
                  exact Nat.le_trans (le_unf (simple_good _ (hal u (by simp))).1 z h0 (by simpa using hm) (by omega)) hsz0
              exact bd_rep k r ra rc ast l sa sc mn mx z ix nm S w bc ec h hS hcel k7' k4' k5' (by simpa using k6) (by simpa using hm) hl1 h0 h1 (by omega) hih hal hsz hsz0
          · rw [if_neg k6]
            have := bd_leaf k r ra rc ast l sa sc mn mx z ix nm S w bc ec h hS hcel k7' k4' k5' (by simpa using k6)
            rw [htr] at this
            exact this
end Go.Proofs.Ytfgelkfnbohmmaa
