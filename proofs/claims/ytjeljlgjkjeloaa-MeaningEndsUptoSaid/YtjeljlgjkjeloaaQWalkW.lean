/- meaning's walker does what the plain one does. -/
import Derived.Test.YtjeljlgjkjeloaaQBgM
import Derived.Test.YtjeljlgjkjeloaaQBg2
import Derived.Test.YtjeljlgjkjeloaaQBg3
import Derived.Test.YtjeljlgjkjeloaaQBg7
import Derived.Test.YtjeljlgjkjeloaaQTop
namespace Go.Proofs.Ytjeljlgjkjeloaa
open Go.RowKit

section
variable {t : List Int} {at_ : Nat}
theorem work_mono (s : Mean.St) (k : Mean.Task) : s.calls ≤ (Mean.work t at_ s k).1.calls := by
  cases k with
  | beg n pl nt K => exact Nat.le_succ _
  | dcd n pl nt K => exact Nat.le_succ _
  | go K pl nt =>
    cases K with
    | top => simp only [Mean.work, Mean.ended]; split <;> exact Nat.le_refl _
    | row l K => exact Nat.le_refl _
    | grp i K => exact Nat.le_refl _
    | dec n K => exact Nat.le_refl _
mutual
theorem one_mono : ∀ {s s' : Mean.St} {k : Mean.Task}, Mean.One t at_ s k s' → s.calls ≤ s'.calls
  | s, _, k, .mk h => Nat.le_trans (work_mono s k) (many_mono h)
theorem many_mono : ∀ {s s' : Mean.St} {l : List Mean.Task}, Mean.Many t at_ s l s' → s.calls ≤ s'.calls
  | _, _, _, .nil => Nat.le_refl _
  | _, _, _, .cons h1 h2 => Nat.le_trans (one_mono h1) (many_mono h2)
end
end
/-- What is decided about holds something. -/
def ktLp : Mean.Kt → Prop
  | .top => True
  | .row _ K => ktLp K
  | .grp _ K => ktLp K
  | .dec n K => n.subs ≠ [] ∧ ktLp K
def taskLp : Mean.Task → Prop
  | .beg _ _ _ K => ktLp K
  | .dcd n _ _ K => n.subs ≠ [] ∧ ktLp K
  | .go K _ _ => ktLp K
theorem rowT_lp {l : List Mean.Un} {pl : Nat} {nt : List Int} {K : Mean.Kt} (h : ktLp K) : taskLp (Mean.rowT l pl nt K) := by
  cases l with
  | nil => exact h
  | cons s l => exact (show ktLp (.row l K) from h)
theorem choose_lp {n : Mean.Un} {pl : Nat} {nt : List Int} {again K : Mean.Kt} (h1 : ktLp again) (h2 : ktLp K) : ∀ x ∈ Mean.choose n pl nt again K, taskLp x := by
  unfold Mean.choose
  intro x hx
  cases hs : n.subs with
  | nil => rw [hs] at hx; cases hx
  | cons s l =>
    rw [hs] at hx
    simp only [] at hx
    split at hx <;> (simp only [List.mem_cons, List.not_mem_nil, or_false] at hx; rcases hx with rfl | rfl)
    · exact h2
    · exact h1
    · exact h1
    · exact h2
theorem work_lp {t : List Int} {at_ : Nat} {s : Mean.St} {k : Mean.Task} (hn : ∀ n pl nt K, k = .beg n pl nt K → n.kind = -2 ∨ n.kind = -3 → n.subs ≠ []) (h : taskLp k) : ∀ x ∈ (Mean.work t at_ s k).2, taskLp x := by
  intro x hx
  cases k with
  | beg n pl nt K =>
    have hK : ktLp K := h
    have hnn := hn n pl nt K rfl
    simp only [Mean.work] at hx
    split at hx
    · unfold Mean.first at hx
      split at hx
      · simp only [List.mem_singleton] at hx; subst hx; exact hK
      split at hx
      · split at hx
        · simp only [List.mem_singleton] at hx; subst hx; exact hK
        · cases hx
      split at hx
      · split at hx
        · simp only [List.mem_singleton] at hx; subst hx; exact hK
        · cases hx
      split at hx
      · simp only [List.mem_singleton] at hx; subst hx; exact rowT_lp hK
      split at hx
      · obtain ⟨s, _, rfl⟩ := List.mem_map.1 hx; exact hK
      split at hx
      · split at hx
        · cases hx
        · simp only [List.mem_singleton] at hx; subst hx; exact (show ktLp (.grp n.ix K) from hK)
      split at hx
      · exact choose_lp hK hK x hx
      split at hx
      · rename_i h2
        simp only [List.mem_singleton] at hx; subst hx; exact ⟨hnn (.inl h2), hK⟩
      split at hx
      · rename_i h3
        split at hx
        · cases hx
        · simp only [List.mem_singleton] at hx; subst hx; exact (show ktLp (.dec n K) from ⟨hnn (.inr h3), hK⟩)
      · cases hx
    · cases hx
  | dcd n pl nt K =>
    simp only [Mean.work] at hx
    split at hx
    · exact choose_lp (show ktLp (.dec n K) from h) h.2 x hx
    · cases hx
  | go K pl nt =>
    cases K with
    | top => simp only [Mean.work] at hx; cases hx
    | row l K => simp only [Mean.work, List.mem_singleton] at hx; subst hx; exact rowT_lp h
    | grp i K => simp only [Mean.work, List.mem_singleton] at hx; subst hx; exact (show ktLp K from h)
    | dec n K => simp only [Mean.work, List.mem_singleton] at hx; subst hx; exact h
/-- One task, if what it begins does so. -/
theorem task_does (G : Wk) (hwf : G.wf) (hbase : ∀ w, G.cst w → G.base ≤ w.heap.size) (s s' : Mean.St) (k : Mean.Task) (hu : k.uses G.U G.t.length) (hlp : taskLp k) (hb : s.calls ≤ 4611686018427387904)
    (h : G.chain (Mean.work G.t G.at_ s k).1 (Mean.work G.t G.at_ s k).2 s') : G.does s k s' := by
  cases k with
  | beg n pl nt K =>
    simp only [Mean.work] at h
    by_cases hm : s.met (n.ad, pl, false) = 0
    · rw [if_pos hm] at h
      rcases hwf.kinds n hu.1 with e | e | e | e | e | e | e | e | e
      · exact beg_1 G hwf s s' n pl nt K e hm h hb
      · exact beg_2 G hwf s s' n pl nt K e hm h hb
      · exact beg_3 G hwf s s' n pl nt K e hm h hb
      · exact beg_4 G hwf s s' n pl nt K e hm h hb
      · exact beg_5 G hwf s s' n pl nt K e hm h hb
      · exact beg_7 G hwf s s' n pl nt K e hm h hb
      · exact beg_q G hwf s s' n pl nt K e hm h hb
      · exact beg_s G hwf s s' n pl nt K e hm h hb
      · exact beg_p G hwf s s' n pl nt K e hm h hb
    · rw [if_neg hm] at h
      obtain rfl : s' = _ := h
      exact beg_met G hwf s s n pl nt K hm trivial hb
  | dcd n pl nt K =>
    exact decide_any G hwf s s' n pl nt K hlp.1 hb h
  | go K pl nt =>
    cases K with
    | top =>
      obtain rfl : s' = _ := h
      exact top_clo G hwf s pl nt hbase
    | row l K => exact row_clo G s s' l K pl nt h
    | grp i K => exact grp_clo G s s' i K pl nt h hwf.nl.2
    | dec n K => exact dec_clo G s s' n K pl nt h
theorem wf_lp {G : Wk} (hwf : G.wf) {k : Mean.Task} (hu : k.uses G.U G.t.length) : ∀ n pl nt K, k = .beg n pl nt K → n.kind = -2 ∨ n.kind = -3 → n.subs ≠ [] := by
  rintro n pl nt K rfl h
  exact hwf.one n hu.1 (h.elim (fun h => .inr (.inr (.inl h))) (fun h => .inr (.inr (.inr h))))
mutual
theorem one_does (G : Wk) (hwf : G.wf) (hbase : ∀ w, G.cst w → G.base ≤ w.heap.size) : ∀ {s s' : Mean.St} {k : Mean.Task}, Mean.One G.t G.at_ s k s' → k.uses G.U G.t.length → taskLp k → s'.calls ≤ 4611686018427387904 → G.does s k s'
  | s, s', k, .mk h, hu, hlp, hb => task_does G hwf hbase s s' k hu hlp (Nat.le_trans (work_mono (t := G.t) (at_ := G.at_) s k) (Nat.le_trans (many_mono h) hb)) (many_does G hwf hbase h (Mean.work_uses hwf.closed hu) (work_lp (wf_lp hwf hu) hlp) hb)
theorem many_does (G : Wk) (hwf : G.wf) (hbase : ∀ w, G.cst w → G.base ≤ w.heap.size) : ∀ {s s' : Mean.St} {l : List Mean.Task}, Mean.Many G.t G.at_ s l s' → (∀ k ∈ l, k.uses G.U G.t.length) → (∀ k ∈ l, taskLp k) → s'.calls ≤ 4611686018427387904 → G.chain s l s'
  | _, _, _, .nil, _, _, _ => rfl
  | _, _, _, .cons h1 h2, hu, hlp, hb => ⟨_, one_does G hwf hbase h1 (hu _ List.mem_cons_self) (hlp _ List.mem_cons_self) (Nat.le_trans (many_mono h2) hb), many_does G hwf hbase h2 (fun k hk => hu k (List.mem_cons_of_mem _ hk)) (fun k hk => hlp k (List.mem_cons_of_mem _ hk)) hb⟩
end
end Go.Proofs.Ytjeljlgjkjeloaa
