/- The Ends that meaning's walker finds are those that a tree leads to. No program here. -/
import Derived.Test.YtjeljlgjkjeloaaQMean
namespace Go.Proofs.Ytjeljlgjkjeloaa.Mean
open Go.Proofs.Ytjeljlgjkjeloaa.Mach

section
variable (t : List Int)
mutual
/-- A node leads from a place to a place. -/
inductive Lead : Un → Nat → Nat → Prop where
  | empty {n : Un} {i : Nat} : n.kind = 1 → Lead n i i
  | cls {n : Un} {i : Nat} : n.kind = 2 → i < t.length → memB n.rng (t.getD i 0) = true → Lead n i (i + 1)
  | ass {n : Un} {i : Nat} : n.kind = 3 → asB t i n.ast = true → Lead n i i
  | cat {n : Un} {i j : Nat} : n.kind = 4 → Leads n.subs i j → Lead n i j
  | alt {n s : Un} {i j : Nat} : n.kind = 5 → s ∈ n.subs → Lead s i j → Lead n i j
  | grp {n s : Un} {l : List Un} {i j : Nat} : n.kind = 7 → n.subs = s :: l → Lead s i j → Lead n i j
  | skip {n s : Un} {l : List Un} {i : Nat} : n.kind = -1 → n.subs = s :: l → Lead n i i
  | opt {n s : Un} {l : List Un} {i j : Nat} : n.kind = -1 → n.subs = s :: l → Lead s i j → Lead n i j
  | star {n : Un} {i j : Nat} : n.kind = -2 → Star n i j → Lead n i j
  | plus {n s : Un} {l : List Un} {i k j : Nat} : n.kind = -3 → n.subs = s :: l → Lead s i k → Star n k j → Lead n i j
/-- Nodes one behind the other. -/
inductive Leads : List Un → Nat → Nat → Prop where
  | nil {i : Nat} : Leads [] i i
  | cons {s : Un} {l : List Un} {i k j : Nat} : Lead s i k → Leads l k j → Leads (s :: l) i j
/-- A loop's first node, as often as one likes. -/
inductive Star : Un → Nat → Nat → Prop where
  | stop {n s : Un} {l : List Un} {i : Nat} : n.subs = s :: l → Star n i i
  | more {n s : Un} {l : List Un} {i k j : Nat} : n.subs = s :: l → Lead s i k → Star n k j → Star n i j
end
/-- What comes behind leads to an End. -/
def KL : Kt → Nat → Nat → Prop
  | .top, i, j => i = j
  | .row l K, i, j => ∃ k, Leads t l i k ∧ KL K k j
  | .grp _ K, i, j => KL K i j
  | .dec n K, i, j => ∃ k, Star t n i k ∧ KL K k j
def TL : Task → Nat → Prop
  | .beg n pl _ K, j => ∃ k, Lead t n pl k ∧ KL t K k j
  | .dcd n pl _ K, j => ∃ k, Star t n pl k ∧ KL t K k j
  | .go K pl _, j => KL t K pl j
variable {t}
theorem rowT_leads {l : List Un} {pl : Nat} {nt : List Int} {K : Kt} {j : Nat} : TL t (rowT l pl nt K) j ↔ ∃ k, Leads t l pl k ∧ KL t K k j := by
  cases l with
  | nil =>
    refine ⟨fun h => ⟨pl, .nil, h⟩, fun ⟨k, h1, h2⟩ => ?_⟩
    cases h1
    exact h2
  | cons s l =>
    constructor
    · rintro ⟨k, h1, k2, h2, h3⟩
      exact ⟨k2, .cons h1 h2, h3⟩
    · rintro ⟨k2, h1, h3⟩
      cases h1 with
      | cons h1 h2 => exact ⟨_, h1, _, h2, h3⟩
theorem choose_leads {n s : Un} {l : List Un} (hs : n.subs = s :: l) {pl : Nat} {nt : List Int} {again K : Kt} {j : Nat} : (∃ x ∈ choose n pl nt again K, TL t x j) ↔ KL t K pl j ∨ ∃ k, Lead t s pl k ∧ KL t again k j := by
  unfold choose
  rw [hs]
  simp only []
  split
  · simp [TL]
  · simp [TL, or_comm]
/-- What a node that begins leads to, its tasks lead to. -/
theorem first_leads {n : Un} {pl : Nat} {nt : List Int} {K : Kt} {j : Nat} (h : ∃ x ∈ first t n pl nt K, TL t x j) : TL t (.beg n pl nt K) j := by
  obtain ⟨x, hx, hj⟩ := h
  unfold first at hx
  split at hx
  · rename_i h1
    simp only [List.mem_singleton] at hx; subst hx
    exact ⟨pl, .empty h1, hj⟩
  split at hx
  · rename_i h2
    split at hx
    · rename_i h
      simp only [List.mem_singleton] at hx; subst hx
      exact ⟨pl + 1, .cls h2 h.1 h.2, hj⟩
    · cases hx
  split at hx
  · rename_i h3
    split at hx
    · rename_i h
      simp only [List.mem_singleton] at hx; subst hx
      exact ⟨pl, .ass h3 h, hj⟩
    · cases hx
  split at hx
  · rename_i h4
    simp only [List.mem_singleton] at hx; subst hx
    obtain ⟨k, h1, h2⟩ := rowT_leads.1 hj
    exact ⟨k, .cat h4 h1, h2⟩
  split at hx
  · rename_i h5
    obtain ⟨s, hs, rfl⟩ := List.mem_map.1 hx
    obtain ⟨k, h1, h2⟩ := hj
    exact ⟨k, .alt h5 hs h1, h2⟩
  split at hx
  · rename_i h7
    split at hx
    · cases hx
    · rename_i s l hs
      simp only [List.mem_singleton] at hx; subst hx
      obtain ⟨k, h1, h2⟩ := hj
      exact ⟨k, .grp h7 hs h1, h2⟩
  split at hx
  · rename_i hm1
    cases hs : n.subs with
    | nil => unfold choose at hx; rw [hs] at hx; cases hx
    | cons s l =>
      rcases (choose_leads hs).1 ⟨x, hx, hj⟩ with h | ⟨k, h1, h2⟩
      · exact ⟨pl, .skip hm1 hs, h⟩
      · exact ⟨k, .opt hm1 hs h1, h2⟩
  split at hx
  · rename_i hm2
    simp only [List.mem_singleton] at hx; subst hx
    obtain ⟨k, h1, h2⟩ := hj
    exact ⟨k, .star hm2 h1, h2⟩
  split at hx
  · rename_i hm3
    split at hx
    · cases hx
    · rename_i s l hs
      simp only [List.mem_singleton] at hx; subst hx
      obtain ⟨k, h1, k2, h2, h3⟩ := hj
      exact ⟨k2, .plus hm3 hs h1 h2, h3⟩
  · cases hx
theorem decide_leads {n : Un} {pl : Nat} {nt : List Int} {K : Kt} {j : Nat} (h : ∃ x ∈ choose n pl nt (.dec n K) K, TL t x j) : TL t (.dcd n pl nt K) j := by
  cases hs : n.subs with
  | nil => obtain ⟨x, hx, -⟩ := h; unfold choose at hx; rw [hs] at hx; cases hx
  | cons s l =>
    rcases (choose_leads hs).1 h with h | ⟨k, h1, k2, h2, h3⟩
    · exact ⟨pl, .stop hs, h⟩
    · exact ⟨k2, .more hs h1 h2, h3⟩
variable {at_ : Nat}
/-- The Ends of a state. -/
def St.ends (s : St) (j : Nat) : Prop := ∃ p ∈ s.out, p.1 = j
theorem ended_ends {s : St} {pl : Nat} {nt : List Int} {j : Nat} : (ended at_ s pl nt).ends j ↔ s.ends j ∨ j = pl := by
  unfold ended
  split
  · rename_i h
    refine ⟨.inl, fun hh => hh.elim id fun e => ?_⟩
    obtain ⟨p, hp, e2⟩ := List.any_eq_true.1 h
    exact ⟨p, hp, by subst e; simpa using e2⟩
  · unfold St.ends
    simp only [List.mem_append, List.mem_singleton]
    constructor
    · rintro ⟨p, hp | rfl, rfl⟩
      · exact .inl ⟨p, hp, rfl⟩
      · exact .inr rfl
    · rintro (⟨p, hp, rfl⟩ | rfl)
      · exact ⟨p, .inl hp, rfl⟩
      · exact ⟨_, .inr rfl, rfl⟩
/-- What the tasks of a task lead to, it leads to; what it ends itself, too. -/
theorem work_leads {s : St} {k : Task} {j : Nat} : ((work t at_ s k).1.ends j → s.ends j ∨ TL t k j) ∧ ((∃ x ∈ (work t at_ s k).2, TL t x j) → TL t k j) := by
  cases k with
  | beg n pl nt K =>
    refine ⟨.inl, fun ⟨x, hx, hj⟩ => ?_⟩
    simp only [work] at hx
    split at hx
    · exact first_leads ⟨x, hx, hj⟩
    · cases hx
  | dcd n pl nt K =>
    refine ⟨.inl, fun ⟨x, hx, hj⟩ => ?_⟩
    simp only [work] at hx
    split at hx
    · exact decide_leads ⟨x, hx, hj⟩
    · cases hx
  | go K pl nt =>
    cases K with
    | top =>
      refine ⟨fun h => (ended_ends.1 h).imp id fun e => ?_, fun ⟨x, hx, _⟩ => by simp only [work] at hx; cases hx⟩
      exact e.symm
    | row l K => exact ⟨.inl, fun ⟨x, hx, hj⟩ => by simp only [work, List.mem_singleton] at hx; subst hx; exact rowT_leads.1 hj⟩
    | grp i K => exact ⟨.inl, fun ⟨x, hx, hj⟩ => by simp only [work, List.mem_singleton] at hx; subst hx; exact hj⟩
    | dec n K => exact ⟨.inl, fun ⟨x, hx, hj⟩ => by simp only [work, List.mem_singleton] at hx; subst hx; exact hj⟩
mutual
theorem one_sound : ∀ {s s' : St} {k : Task}, One t at_ s k s' → ∀ j, s'.ends j → s.ends j ∨ TL t k j
  | s, s', k, .mk h, j, hj => by
    rcases many_sound h j hj with h1 | h1
    · exact work_leads.1 h1
    · exact .inr (work_leads (at_ := at_) (s := s).2 h1)
theorem many_sound : ∀ {s s' : St} {l : List Task}, Many t at_ s l s' → ∀ j, s'.ends j → s.ends j ∨ ∃ x ∈ l, TL t x j
  | s, _, [], .nil, j, hj => .inl hj
  | s, s', k :: l, .cons h1 h2, j, hj => by
    rcases many_sound h2 j hj with h | ⟨x, hx, h⟩
    · exact (one_sound h1 j h).imp id fun h => ⟨k, List.mem_cons_self, h⟩
    · exact .inr ⟨x, List.mem_cons_of_mem _ hx, h⟩
end
/-- A task was done: its mark was come to, its End is there. -/
def DoneK (s : St) : Kt → Nat → Prop
  | .top, pl => s.ends pl
  | .row [] K, pl => DoneK s K pl
  | .row (u :: _) _, pl => 0 < s.met (u.ad, pl, false)
  | .grp _ K, pl => DoneK s K pl
  | .dec n _, pl => 0 < s.met (n.ad, pl, true)
def Done (s : St) : Task → Prop
  | .beg n pl _ _ => 0 < s.met (n.ad, pl, false)
  | .dcd n pl _ _ => 0 < s.met (n.ad, pl, true)
  | .go K pl _ => DoneK s K pl
structure Grows (s s' : St) : Prop where
  met : ∀ m, 0 < s.met m → 0 < s'.met m
  ends : ∀ j, s.ends j → s'.ends j
theorem Grows.refl (s : St) : Grows s s := ⟨fun _ h => h, fun _ h => h⟩
theorem Grows.trans {s s1 s2 : St} (h : Grows s s1) (g : Grows s1 s2) : Grows s s2 := ⟨fun m hm => g.met m (h.met m hm), fun j hj => g.ends j (h.ends j hj)⟩
theorem Grows.doneK {s s' : St} (h : Grows s s') : ∀ {K : Kt} {pl : Nat}, DoneK s K pl → DoneK s' K pl
  | .top, _, hd => h.ends _ hd
  | .row [] K, _, hd => Grows.doneK h (K := K) hd
  | .row (_ :: _) _, _, hd => h.met _ hd
  | .grp _ K, _, hd => Grows.doneK h (K := K) hd
  | .dec _ _, _, hd => h.met _ hd
theorem Grows.done {s s' : St} (h : Grows s s') {k : Task} (hd : Done s k) : Done s' k := by
  cases k with
  | beg n pl nt K => exact h.met _ hd
  | dcd n pl nt K => exact h.met _ hd
  | go K pl nt => exact h.doneK hd
theorem grows_mark (s : St) (m : Mark) : Grows s (s.mark m) := ⟨fun x hx => by unfold St.mark; simp only []; split <;> omega, fun j h => h⟩
theorem work_grows (s : St) (k : Task) : Grows s (work t at_ s k).1 := by
  cases k with
  | beg n pl nt K => exact grows_mark _ _
  | dcd n pl nt K => exact grows_mark _ _
  | go K pl nt =>
    cases K with
    | top => exact ⟨fun m hm => by simp only [work, ended]; split <;> exact hm, fun j hj => ended_ends.2 (.inl hj)⟩
    | row l K => exact Grows.refl _
    | grp i K => exact Grows.refl _
    | dec n K => exact Grows.refl _
mutual
theorem one_grows : ∀ {s s' : St} {k : Task}, One t at_ s k s' → Grows s s'
  | s, _, k, .mk h => (work_grows s k).trans (many_grows h)
theorem many_grows : ∀ {s s' : St} {l : List Task}, Many t at_ s l s' → Grows s s'
  | s, _, [], .nil => Grows.refl s
  | _, _, _ :: _, .cons h1 h2 => (one_grows h1).trans (many_grows h2)
end
/-- Where nodes stand: with what comes behind. -/
def Stand : Type := Un → Kt → Prop
/-- Of what was met newly, all that begins is done. -/
def Full (t : List Int) (P : Un → Kt → Prop) (s s' : St) : Prop := ∀ n K pl, P n K → (0 < s'.met (n.ad, pl, false) → ¬ 0 < s.met (n.ad, pl, false) → ∀ nt, ∀ x ∈ first t n pl nt K, Done s' x) ∧ (0 < s'.met (n.ad, pl, true) → ¬ 0 < s.met (n.ad, pl, true) → ∀ nt, ∀ x ∈ choose n pl nt (.dec n K) K, Done s' x)
theorem done_rowT {s : St} {l : List Un} {pl : Nat} {nt nt' : List Int} {K : Kt} (h : Done s (rowT l pl nt K)) : Done s (rowT l pl nt' K) := by
  cases l with
  | nil => exact h
  | cons u l => exact h
theorem done_row {s : St} {l : List Un} {pl : Nat} {nt : List Int} {K : Kt} : Done s (rowT l pl nt K) ↔ DoneK s (.row l K) pl := by
  cases l with
  | nil => exact Iff.rfl
  | cons u l => exact Iff.rfl
/-- To loop: x* or x+. -/
def Un.Loops (n : Un) : Prop := n.kind = -2 ∨ n.kind = -3
/-- What comes behind stands in the tree. -/
def rowSt (P : Un → Kt → Prop) (K : Kt) : List Un → Prop
  | [] => True
  | s :: l => P s (.row l K) ∧ rowSt P K l
def KSt (P : Un → Kt → Prop) : Kt → Prop
  | .top => True
  | .row l K => rowSt P K l ∧ KSt P K
  | .grp _ K => KSt P K
  | .dec n K => (P n K ∧ n.Loops) ∧ KSt P K
def TSt (P : Un → Kt → Prop) : Task → Prop
  | .beg n _ _ K => P n K
  | .dcd n _ _ K => P n K ∧ n.Loops
  | .go K _ _ => KSt P K
/-- Nodes with what comes behind them: each but once, and with them all that they come to. -/
structure Place (t : List Int) (P : Un → Kt → Prop) : Prop where
  one : ∀ n K n' K', P n K → P n' K' → n.ad = n'.ad → n = n' ∧ K = K'
  first : ∀ n K, P n K → ∀ pl nt, ∀ x ∈ first t n pl nt K, TSt P x
  decide : ∀ n K, P n K → n.Loops → ∀ pl nt, ∀ x ∈ choose n pl nt (.dec n K) K, TSt P x
  behind : ∀ n K, P n K → KSt P K
/-- A task without its notes. -/
def Task.plain : Task → Task
  | .beg n pl _ K => .beg n pl [] K
  | .dcd n pl _ K => .dcd n pl [] K
  | .go K pl _ => .go K pl []
theorem done_plain {s : St} {x : Task} : Done s x.plain ↔ Done s x := by cases x <;> exact Iff.rfl
theorem rowT_plain (l : List Un) (pl : Nat) (nt nt' : List Int) (K : Kt) : (rowT l pl nt K).plain = (rowT l pl nt' K).plain := by cases l <;> rfl
theorem choose_plain (n : Un) (pl : Nat) (nt nt' : List Int) (A K : Kt) : (choose n pl nt A K).map Task.plain = (choose n pl nt' A K).map Task.plain := by
  unfold choose
  cases n.subs with
  | nil => rfl
  | cons u l => cases n.lz <;> rfl
theorem first_plain (n : Un) (pl : Nat) (nt nt' : List Int) (K : Kt) : (first t n pl nt K).map Task.plain = (first t n pl nt' K).map Task.plain := by
  unfold first
  by_cases k1 : n.kind = 1
  · rw [if_pos k1, if_pos k1]; rfl
  rw [if_neg k1, if_neg k1]
  by_cases k2 : n.kind = 2
  · rw [if_pos k2, if_pos k2]
    by_cases h : pl < t.length ∧ memB n.rng (t.getD pl 0) = true
    · rw [if_pos h, if_pos h]; rfl
    · rw [if_neg h, if_neg h]
  rw [if_neg k2, if_neg k2]
  by_cases k3 : n.kind = 3
  · rw [if_pos k3, if_pos k3]
    by_cases h : asB t pl n.ast = true
    · rw [if_pos h, if_pos h]; rfl
    · rw [if_neg h, if_neg h]
  rw [if_neg k3, if_neg k3]
  by_cases k4 : n.kind = 4
  · rw [if_pos k4, if_pos k4, List.map_cons, List.map_cons, rowT_plain n.subs pl nt nt' K]
  rw [if_neg k4, if_neg k4]
  by_cases k5 : n.kind = 5
  · rw [if_pos k5, if_pos k5, List.map_map, List.map_map]; rfl
  rw [if_neg k5, if_neg k5]
  by_cases k7 : n.kind = 7
  · rw [if_pos k7, if_pos k7]; cases n.subs <;> rfl
  rw [if_neg k7, if_neg k7]
  by_cases m1 : n.kind = -1
  · rw [if_pos m1, if_pos m1]; exact choose_plain n pl nt nt' K K
  rw [if_neg m1, if_neg m1]
  by_cases m2 : n.kind = -2
  · rw [if_pos m2, if_pos m2]; rfl
  rw [if_neg m2, if_neg m2]
  by_cases m3 : n.kind = -3
  · rw [if_pos m3, if_pos m3]; cases n.subs <;> rfl
  rw [if_neg m3, if_neg m3]
theorem plain_any {s : St} {l l' : List Task} (e : l.map Task.plain = l'.map Task.plain) (h : ∀ x ∈ l, Done s x) : ∀ x ∈ l', Done s x := by
  intro x hx
  have hm : x.plain ∈ l.map Task.plain := by rw [e]; exact List.mem_map_of_mem hx
  obtain ⟨y, hy, he⟩ := List.mem_map.1 hm
  have := h y hy
  rw [← done_plain, he, done_plain] at this
  exact this
theorem first_any {s : St} {n : Un} {pl : Nat} {nt nt' : List Int} {K : Kt} (h : ∀ x ∈ first t n pl nt K, Done s x) : ∀ x ∈ first t n pl nt' K, Done s x := plain_any (first_plain n pl nt nt' K) h
theorem decide_any {s : St} {n : Un} {pl : Nat} {nt nt' : List Int} {K A : Kt} (h : ∀ x ∈ choose n pl nt A K, Done s x) : ∀ x ∈ choose n pl nt' A K, Done s x := plain_any (choose_plain n pl nt nt' A K) h
theorem Full.trans {P : Un → Kt → Prop} {s s1 s2 : St} (h : Full t P s s1) (g : Full t P s1 s2) (hg : Grows s1 s2) : Full t P s s2 := by
  intro n K pl hP
  obtain ⟨h1, h2⟩ := h n K pl hP
  obtain ⟨g1, g2⟩ := g n K pl hP
  refine ⟨fun hm hn nt x hx => ?_, fun hm hn nt x hx => ?_⟩
  · by_cases hm1 : 0 < s1.met (n.ad, pl, false)
    · exact hg.done (h1 hm1 hn nt x hx)
    · exact g1 hm hm1 nt x hx
  · by_cases hm1 : 0 < s1.met (n.ad, pl, true)
    · exact hg.done (h2 hm1 hn nt x hx)
    · exact g2 hm hm1 nt x hx
theorem mark_met {s : St} {m x : Mark} (h : 0 < (s.mark m).met x) (hn : ¬ 0 < s.met x) : x = m := by
  unfold St.mark at h
  simp only [] at h
  by_cases e : x = m
  · exact e
  · rw [if_neg e] at h; exact absurd h hn
mutual
theorem one_full {P : Un → Kt → Prop} (hP : Place t P) : ∀ {s s' : St} {k : Task}, One t at_ s k s' → TSt P k → Done s' k ∧ Full t P s s'
  | s, s', k, .mk h, hk => by
    have hg := many_grows h
    have hmf := many_full hP h
    cases k with
    | beg n pl nt K =>
      have hts : ∀ x ∈ (work t at_ s (.beg n pl nt K)).2, TSt P x := fun x hx => by
        simp only [work] at hx
        split at hx
        · exact hP.first n K hk pl nt x hx
        · cases hx
      obtain ⟨hd, hf⟩ := hmf hts
      have hm : 0 < (s.mark (n.ad, pl, false)).met (n.ad, pl, false) := by simp [St.mark]
      refine ⟨hg.met _ hm, ?_⟩
      intro n' K' pl' hP'
      obtain ⟨f1, f2⟩ := hf n' K' pl' hP'
      refine ⟨fun hm' hn' nt' x hx => ?_, fun hm' hn' nt' x hx => ?_⟩
      · by_cases hm1 : 0 < (s.mark (n.ad, pl, false)).met (n'.ad, pl', false)
        · have e := mark_met hm1 hn'
          simp only [Prod.mk.injEq, and_true] at e
          obtain ⟨e1, e2⟩ := hP.one _ _ _ _ hP' hk e.1
          obtain rfl := e1
          obtain rfl := e2
          obtain rfl := e.2
          have h0 : s.met (n'.ad, pl', false) = 0 := by omega
          refine first_any (nt := nt) (fun y hy => hd y ?_) x hx
          simp only [work]
          rw [if_pos h0]
          exact hy
        · exact f1 hm' hm1 nt' x hx
      · by_cases hm1 : 0 < (s.mark (n.ad, pl, false)).met (n'.ad, pl', true)
        · have e := mark_met hm1 hn'
          simp at e
        · exact f2 hm' hm1 nt' x hx
    | dcd n pl nt K =>
      have hts : ∀ x ∈ (work t at_ s (.dcd n pl nt K)).2, TSt P x := fun x hx => by
        simp only [work] at hx
        split at hx
        · exact hP.decide n K hk.1 hk.2 pl nt x hx
        · cases hx
      obtain ⟨hd, hf⟩ := hmf hts
      have hm : 0 < (s.mark (n.ad, pl, true)).met (n.ad, pl, true) := by simp [St.mark]
      refine ⟨hg.met _ hm, ?_⟩
      intro n' K' pl' hP'
      obtain ⟨f1, f2⟩ := hf n' K' pl' hP'
      refine ⟨fun hm' hn' nt' x hx => ?_, fun hm' hn' nt' x hx => ?_⟩
      · by_cases hm1 : 0 < (s.mark (n.ad, pl, true)).met (n'.ad, pl', false)
        · have e := mark_met hm1 hn'
          simp at e
        · exact f1 hm' hm1 nt' x hx
      · by_cases hm1 : 0 < (s.mark (n.ad, pl, true)).met (n'.ad, pl', true)
        · have e := mark_met hm1 hn'
          simp only [Prod.mk.injEq, and_true] at e
          obtain ⟨e1, e2⟩ := hP.one _ _ _ _ hP' hk.1 e.1
          obtain rfl := e1
          obtain rfl := e2
          obtain rfl := e.2
          have h0 : s.met (n'.ad, pl', true) = 0 := by omega
          refine decide_any (nt := nt) (fun y hy => hd y ?_) x hx
          simp only [work]
          rw [if_pos h0]
          exact hy
        · exact f2 hm' hm1 nt' x hx
    | go K pl nt =>
      cases K with
      | top =>
        obtain ⟨-, hf⟩ := hmf (fun x hx => by simp only [work] at hx; cases hx)
        refine ⟨hg.ends _ (ended_ends.2 (.inr rfl)), ?_⟩
        have e : ∀ m, (work t at_ s (.go .top pl nt)).1.met m = s.met m := fun m => by simp only [work, ended]; split <;> rfl
        intro n' K' pl' hP'
        obtain ⟨f1, f2⟩ := hf n' K' pl' hP'
        rw [e] at f1 f2
        exact ⟨f1, f2⟩
      | row l K =>
        obtain ⟨hd, hf⟩ := hmf (fun x hx => by
          simp only [work, List.mem_singleton] at hx
          subst hx
          cases l with
          | nil => exact hk.2
          | cons u l => exact hk.1.1)
        exact ⟨done_row.1 (hd (rowT l pl nt K) List.mem_cons_self), hf⟩
      | grp i K =>
        obtain ⟨hd, hf⟩ := hmf (fun x hx => by simp only [work, List.mem_singleton] at hx; subst hx; exact hk)
        exact ⟨hd (.go K pl (nt.set (2 * i + 1).toNat pl)) List.mem_cons_self, hf⟩
      | dec n K =>
        obtain ⟨hd, hf⟩ := hmf (fun x hx => by simp only [work, List.mem_singleton] at hx; subst hx; exact hk.1)
        exact ⟨hd (.dcd n pl nt K) List.mem_cons_self, hf⟩
theorem many_full {P : Un → Kt → Prop} (hP : Place t P) : ∀ {s s' : St} {l : List Task}, Many t at_ s l s' → (∀ x ∈ l, TSt P x) → (∀ x ∈ l, Done s' x) ∧ Full t P s s'
  | s, _, [], .nil, _ => ⟨by simp, fun n K pl _ => ⟨fun h1 h2 => absurd h1 h2, fun h1 h2 => absurd h1 h2⟩⟩
  | s, s', k :: l, .cons h1 h2, hk => by
    obtain ⟨d1, f1⟩ := one_full hP h1 (hk k List.mem_cons_self)
    obtain ⟨d2, f2⟩ := many_full hP h2 fun x hx => hk x (List.mem_cons_of_mem _ hx)
    have hg := many_grows h2
    refine ⟨fun x hx => ?_, f1.trans f2 hg⟩
    rcases List.mem_cons.1 hx with rfl | hx
    · exact hg.done d1
    · exact d2 x hx
end
/-- All is done of what was met. -/
def AllDone (t : List Int) (P : Un → Kt → Prop) (s : St) : Prop := ∀ n K pl, P n K → (0 < s.met (n.ad, pl, false) → ∀ nt, ∀ x ∈ first t n pl nt K, Done s x) ∧ (0 < s.met (n.ad, pl, true) → ∀ nt, ∀ x ∈ choose n pl nt (.dec n K) K, Done s x)
theorem choose_parts {s : St} {n u : Un} {l : List Un} (hs : n.subs = u :: l) {pl : Nat} {nt : List Int} {A K : Kt} (h : ∀ x ∈ choose n pl nt A K, Done s x) : DoneK s K pl ∧ 0 < s.met (u.ad, pl, false) := by
  unfold choose at h
  rw [hs] at h
  simp only [] at h
  split at h
  · exact ⟨h _ List.mem_cons_self, h _ (List.mem_cons_of_mem _ List.mem_cons_self)⟩
  · exact ⟨h _ (List.mem_cons_of_mem _ List.mem_cons_self), h _ List.mem_cons_self⟩
theorem choose_stands {P : Un → Kt → Prop} {n u : Un} {l : List Un} (hs : n.subs = u :: l) {pl : Nat} {nt : List Int} {A K : Kt} (h : ∀ x ∈ choose n pl nt A K, TSt P x) : P u A := by
  unfold choose at h
  rw [hs] at h
  simp only [] at h
  split at h
  · exact h _ (List.mem_cons_of_mem _ List.mem_cons_self)
  · exact h _ List.mem_cons_self
mutual
theorem lead_done {P : Un → Kt → Prop} {s : St} (hP : Place t P) (hA : AllDone t P s) : ∀ {n : Un} {i k : Nat}, Lead t n i k → ∀ {K : Kt}, P n K → 0 < s.met (n.ad, i, false) → DoneK s K k
  | n, i, _, .empty k1, K, hp, hm => by
    have h := (hA n K i hp).1 hm []
    unfold first at h
    rw [if_pos k1] at h
    exact h _ List.mem_cons_self
  | n, i, _, .cls k2 hl hb, K, hp, hm => by
    have h := (hA n K i hp).1 hm []
    unfold first at h
    rw [if_neg (by rw [k2]; decide), if_pos k2, if_pos ⟨hl, hb⟩] at h
    exact h _ List.mem_cons_self
  | n, i, _, .ass k3 hb, K, hp, hm => by
    have h := (hA n K i hp).1 hm []
    unfold first at h
    rw [if_neg (by rw [k3]; decide), if_neg (by rw [k3]; decide), if_pos k3, if_pos hb] at h
    exact h _ List.mem_cons_self
  | n, i, j, .cat k4 hl, K, hp, hm => by
    have h := (hA n K i hp).1 hm []
    have ht := hP.first n K hp i []
    unfold first at h ht
    rw [if_neg (by rw [k4]; decide), if_neg (by rw [k4]; decide), if_neg (by rw [k4]; decide), if_pos k4] at h ht
    have h1 := done_row.1 (h _ List.mem_cons_self)
    have h2 := ht _ List.mem_cons_self
    refine leads_done hP hA hl ?_ h1
    cases hs : n.subs with
    | nil => rw [hs] at h2; exact ⟨trivial, h2⟩
    | cons u l => rw [hs] at h2; have h3 := hP.behind _ _ h2; exact ⟨⟨h2, h3.1⟩, h3.2⟩
  | n, i, j, .alt k5 hs hl, K, hp, hm => by
    have h := (hA n K i hp).1 hm []
    have ht := hP.first n K hp i []
    unfold first at h ht
    rw [if_neg (by rw [k5]; decide), if_neg (by rw [k5]; decide), if_neg (by rw [k5]; decide), if_neg (by rw [k5]; decide), if_pos k5] at h ht
    have hmem : ∀ u ∈ n.subs, Task.beg u i [] K ∈ n.subs.map fun s => Task.beg s i [] K := fun u hu => List.mem_map.2 ⟨u, hu, rfl⟩
    have h1 := h _ (hmem _ hs)
    have h2 := ht _ (hmem _ hs)
    exact lead_done hP hA hl h2 h1
  | n, i, j, .grp k7 hs hl, K, hp, hm => by
    have h := (hA n K i hp).1 hm []
    have ht := hP.first n K hp i []
    unfold first at h ht
    rw [if_neg (by rw [k7]; decide), if_neg (by rw [k7]; decide), if_neg (by rw [k7]; decide), if_neg (by rw [k7]; decide), if_neg (by rw [k7]; decide), if_pos k7, hs] at h ht
    exact lead_done (K := .grp n.ix K) hP hA hl (ht _ List.mem_cons_self) (h _ List.mem_cons_self)
  | n, i, _, .skip m1 hs, K, hp, hm => by
    have h := (hA n K i hp).1 hm []
    unfold first at h
    rw [if_neg (by rw [m1]; decide), if_neg (by rw [m1]; decide), if_neg (by rw [m1]; decide), if_neg (by rw [m1]; decide), if_neg (by rw [m1]; decide), if_neg (by rw [m1]; decide), if_pos m1] at h
    exact (choose_parts hs h).1
  | n, i, j, .opt m1 hs hl, K, hp, hm => by
    have h := (hA n K i hp).1 hm []
    have ht := hP.first n K hp i []
    unfold first at h ht
    rw [if_neg (by rw [m1]; decide), if_neg (by rw [m1]; decide), if_neg (by rw [m1]; decide), if_neg (by rw [m1]; decide), if_neg (by rw [m1]; decide), if_neg (by rw [m1]; decide), if_pos m1] at h ht
    exact lead_done hP hA hl (choose_stands hs ht) (choose_parts hs h).2
  | n, i, j, .star m2 hl, K, hp, hm => by
    have h := (hA n K i hp).1 hm []
    unfold first at h
    rw [if_neg (by rw [m2]; decide), if_neg (by rw [m2]; decide), if_neg (by rw [m2]; decide), if_neg (by rw [m2]; decide), if_neg (by rw [m2]; decide), if_neg (by rw [m2]; decide), if_neg (by rw [m2]; decide), if_pos m2] at h
    exact star_done hP hA hl hp (.inl m2) (h _ List.mem_cons_self)
  | n, i, j, .plus m3 hs h1 h2, K, hp, hm => by
    have h := (hA n K i hp).1 hm []
    have ht := hP.first n K hp i []
    unfold first at h ht
    rw [if_neg (by rw [m3]; decide), if_neg (by rw [m3]; decide), if_neg (by rw [m3]; decide), if_neg (by rw [m3]; decide), if_neg (by rw [m3]; decide), if_neg (by rw [m3]; decide), if_neg (by rw [m3]; decide), if_neg (by rw [m3]; decide), if_pos m3, hs] at h ht
    have hd := lead_done (K := .dec n K) hP hA h1 (ht _ List.mem_cons_self) (h _ List.mem_cons_self)
    exact star_done hP hA h2 hp (.inr m3) hd
theorem leads_done {P : Un → Kt → Prop} {s : St} (hP : Place t P) (hA : AllDone t P s) : ∀ {l : List Un} {i k : Nat}, Leads t l i k → ∀ {K : Kt}, KSt P (.row l K) → DoneK s (.row l K) i → DoneK s K k
  | [], i, _, .nil, K, _, hd => hd
  | u :: l, i, j, .cons h1 h2, K, hk, hd => by
    have h := lead_done (K := .row l K) hP hA h1 hk.1.1 hd
    exact leads_done hP hA h2 ⟨hk.1.2, hk.2⟩ h
theorem star_done {P : Un → Kt → Prop} {s : St} (hP : Place t P) (hA : AllDone t P s) : ∀ {n : Un} {i k : Nat}, Star t n i k → ∀ {K : Kt}, P n K → n.Loops → 0 < s.met (n.ad, i, true) → DoneK s K k
  | n, i, _, .stop hs, K, hp, _, hm => (choose_parts hs ((hA n K i hp).2 hm [])).1
  | n, i, j, .more hs h1 h2, K, hp, ho, hm => by
    have h := choose_parts hs ((hA n K i hp).2 hm [])
    have ht := choose_stands hs (hP.decide n K hp ho i [])
    have hd := lead_done (K := .dec n K) hP hA h1 ht h.2
    exact star_done hP hA h2 hp ho hd
end
end
end Go.Proofs.Ytjeljlgjkjeloaa.Mean
/- Each node of an unfolded tree stands in one place: so the walker finds all Ends. No program here. -/
namespace Go.Proofs.Ytjeljlgjkjeloaa.Mean
open Go.Proofs.Ytjeljlgjkjeloaa.Mach

/-- What comes behind a node's subs. -/
def kidK (n : Un) (K : Kt) : Kt := if n.kind = 7 then .grp n.ix K else if n.kind = -2 ∨ n.kind = -3 then .dec n K else K
mutual
/-- All nodes, with what comes behind each. -/
def posU : Un → Kt → List (Un × Kt)
  | .mk a k r b i z l, K => (.mk a k r b i z l, K) :: (if k = 4 then posR l K else posA l (kidK (.mk a k r b i z l) K))
def posR : List Un → Kt → List (Un × Kt)
  | [], _ => []
  | s :: l, K => posU s (.row l K) ++ posR l K
def posA : List Un → Kt → List (Un × Kt)
  | [], _ => []
  | s :: l, K => posU s K ++ posA l K
end
def kids (n : Un) (K : Kt) : List (Un × Kt) := if n.kind = 4 then posR n.subs K else posA n.subs (kidK n K)
theorem posU_eq (n : Un) (K : Kt) : posU n K = (n, K) :: kids n K := by cases n; rw [posU]; rfl
theorem Un.ind {P : Un → Prop} (h : ∀ u, (∀ s ∈ u.subs, P s) → P u) : ∀ u, P u := fun u =>
  Un.rec (motive_1 := P) (motive_2 := fun l => ∀ s ∈ l, P s) (fun a k r b i z l ih => h (.mk a k r b i z l) ih) (by simp) (fun a l ha hl => by intro s hs; rcases List.mem_cons.1 hs with rfl | hs; exact ha; exact hl s hs) u
/-- The places have the nodes' blocks. -/
theorem pos_ads : ∀ (u : Un) (K : Kt), (posU u K).map (fun q => q.1.ad) = u.all.map Un.ad := by
  intro u
  induction u using Un.ind with
  | h u ih =>
    intro K
    have hR : ∀ (l : List Un), (∀ s ∈ l, ∀ K, (posU s K).map (fun q => q.1.ad) = s.all.map Un.ad) → ∀ K, (posR l K).map (fun q => q.1.ad) = (allU l).map Un.ad := by
      intro l
      induction l with
      | nil => intro _ K; rfl
      | cons s l ihl =>
        intro h K
        rw [posR, allU, List.map_append, List.map_append, h s List.mem_cons_self, ihl fun x hx => h x (List.mem_cons_of_mem _ hx)]
    have hA : ∀ (l : List Un), (∀ s ∈ l, ∀ K, (posU s K).map (fun q => q.1.ad) = s.all.map Un.ad) → ∀ K, (posA l K).map (fun q => q.1.ad) = (allU l).map Un.ad := by
      intro l
      induction l with
      | nil => intro _ K; rfl
      | cons s l ihl =>
        intro h K
        rw [posA, allU, List.map_append, List.map_append, h s List.mem_cons_self, ihl fun x hx => h x (List.mem_cons_of_mem _ hx)]
    rw [posU_eq, all_subs, List.map_cons, List.map_cons]
    unfold kids
    split
    · rw [hR u.subs ih]
    · rw [hA u.subs ih]
theorem posR_sub {l : List Un} {K : Kt} {s : Un} {b : List Un} {a : List Un} (h : l = a ++ s :: b) : ∀ q ∈ posU s (.row b K), q ∈ posR l K := by
  subst h
  induction a with
  | nil => intro q hq; rw [List.nil_append, posR]; exact List.mem_append_left _ hq
  | cons x a ih => intro q hq; rw [List.cons_append, posR]; exact List.mem_append_right _ (ih q hq)
theorem posA_sub {l : List Un} {K : Kt} {s : Un} (h : s ∈ l) : ∀ q ∈ posU s K, q ∈ posA l K := by
  induction l with
  | nil => cases h
  | cons x l ih =>
    intro q hq
    rw [posA]
    rcases List.mem_cons.1 h with rfl | h
    · exact List.mem_append_left _ hq
    · exact List.mem_append_right _ (ih h q hq)
theorem mem_posR {l : List Un} {K : Kt} {q : Un × Kt} (h : q ∈ posR l K) : ∃ a s b, l = a ++ s :: b ∧ q ∈ posU s (.row b K) := by
  induction l with
  | nil => cases h
  | cons x l ih =>
    rw [posR] at h
    rcases List.mem_append.1 h with h | h
    · exact ⟨[], x, l, rfl, h⟩
    · obtain ⟨a, s, b, e, h2⟩ := ih h
      exact ⟨x :: a, s, b, by rw [e]; rfl, h2⟩
theorem mem_posA {l : List Un} {K : Kt} {q : Un × Kt} (h : q ∈ posA l K) : ∃ s ∈ l, q ∈ posU s K := by
  induction l with
  | nil => cases h
  | cons x l ih =>
    rw [posA] at h
    rcases List.mem_append.1 h with h | h
    · exact ⟨x, List.mem_cons_self, h⟩
    · obtain ⟨s, hs, h⟩ := ih h
      exact ⟨s, List.mem_cons_of_mem _ hs, h⟩
/-- A place's places are places. -/
theorem pos_trans : ∀ (u : Un) (K : Kt) (n : Un) (K' : Kt), (n, K') ∈ posU u K → ∀ q ∈ posU n K', q ∈ posU u K := by
  intro u
  induction u using Un.ind with
  | h u ih =>
    intro K n K' hn q hq
    rw [posU_eq] at hn
    rcases List.mem_cons.1 hn with e | hn
    · simp only [Prod.mk.injEq] at e
      obtain ⟨rfl, rfl⟩ := e
      exact hq
    rw [posU_eq]
    refine List.mem_cons_of_mem _ ?_
    unfold kids at hn ⊢
    split at hn
    · rename_i h4
      rw [if_pos h4]
      obtain ⟨a, s, b, hs, hm⟩ := mem_posR hn
      exact posR_sub hs q (ih s (by rw [hs]; simp) _ n K' hm q hq)
    · rename_i h4
      rw [if_neg h4]
      obtain ⟨s, hs, hm⟩ := mem_posA hn
      exact posA_sub hs q (ih s hs _ n K' hm q hq)
section
variable {t : List Int} {root : Un}
/-- To stand in the tree. -/
def InT (root : Un) (n : Un) (K : Kt) : Prop := (n, K) ∈ posU root .top
theorem inT_kid {n : Un} {K : Kt} (h : InT root n K) {q : Un × Kt} (hq : q ∈ kids n K) : InT root q.1 q.2 :=
  pos_trans root .top n K h q (by rw [posU_eq]; exact List.mem_cons_of_mem _ hq)
theorem self_pos (n : Un) (K : Kt) : (n, K) ∈ posU n K := by rw [posU_eq]; exact List.mem_cons_self
theorem inT_row {n : Un} {K : Kt} (h : InT root n K) (h4 : n.kind = 4) {a b : List Un} {s : Un} (hs : n.subs = a ++ s :: b) : InT root s (.row b K) :=
  inT_kid h (q := (s, .row b K)) (by unfold kids; rw [if_pos h4]; exact posR_sub hs _ (self_pos s _))
theorem inT_sub {n : Un} {K : Kt} (h : InT root n K) (h4 : n.kind ≠ 4) {s : Un} (hs : s ∈ n.subs) : InT root s (kidK n K) :=
  inT_kid h (q := (s, kidK n K)) (by unfold kids; rw [if_neg h4]; exact posA_sub hs _ (self_pos s _))
theorem rowSt_of {n : Un} {K : Kt} (h : InT root n K) (h4 : n.kind = 4) : ∀ {b a : List Un}, n.subs = a ++ b → rowSt (InT root) K b
  | [], _, _ => trivial
  | s :: b, a, hs => ⟨inT_row h h4 hs, rowSt_of h h4 (a := a ++ [s]) (by rw [hs]; simp)⟩
/-- What comes behind a node that stands, stands. -/
theorem behind_of : ∀ (u : Un) (K : Kt), InT root u K → KSt (InT root) K → ∀ n K', (n, K') ∈ posU u K → KSt (InT root) K' := by
  intro u
  induction u using Un.ind with
  | h u ih =>
    intro K hu hK n K' hn
    rw [posU_eq] at hn
    rcases List.mem_cons.1 hn with e | hn
    · simp only [Prod.mk.injEq] at e
      rw [e.2]; exact hK
    unfold kids at hn
    split at hn
    · rename_i h4
      obtain ⟨a, s, b, hs, hm⟩ := mem_posR hn
      have hs1 := inT_row hu h4 hs
      exact ih s (by rw [hs]; simp) _ hs1 ⟨rowSt_of hu h4 (a := a ++ [s]) (by rw [hs]; simp), hK⟩ n K' hm
    · rename_i h4
      obtain ⟨s, hs, hm⟩ := mem_posA hn
      have hs1 := inT_sub hu h4 hs
      refine ih s hs _ hs1 ?_ n K' hm
      unfold kidK
      split
      · exact hK
      · split
        · rename_i hl; exact ⟨⟨hu, hl⟩, hK⟩
        · exact hK
theorem nodup_one {α β : Type} {f : α → β} : ∀ {l : List α}, (l.map f).Nodup → ∀ {x y : α}, x ∈ l → y ∈ l → f x = f y → x = y
  | [], _, x, _, hx, _, _ => by cases hx
  | a :: l, hn, x, y, hx, hy, e => by
    rw [List.map_cons, List.nodup_cons] at hn
    rcases List.mem_cons.1 hx with hx1 | hx1
    · rcases List.mem_cons.1 hy with hy1 | hy1
      · rw [hx1, hy1]
      · exact absurd (by rw [← hx1, e]; exact List.mem_map_of_mem hy1) hn.1
    · rcases List.mem_cons.1 hy with hy1 | hy1
      · exact absurd (by rw [← hy1, ← e]; exact List.mem_map_of_mem hx1) hn.1
      · exact nodup_one hn.2 hx1 hy1 e
theorem place_of (hd : (root.all.map Un.ad).Nodup) : Place t (InT root) where
  one := fun n K n' K' h1 h2 e => by
    have hd2 : ((posU root .top).map fun q => q.1.ad).Nodup := by rw [pos_ads]; exact hd
    have := nodup_one hd2 h1 h2 e
    simp only [Prod.mk.injEq] at this
    exact this
  first := fun n K h pl nt x hx => by
    have hb := behind_of root .top (self_pos root .top) trivial n K h
    unfold first at hx
    by_cases k1 : n.kind = 1
    · rw [if_pos k1, List.mem_singleton] at hx; subst hx; exact hb
    rw [if_neg k1] at hx
    by_cases k2 : n.kind = 2
    · rw [if_pos k2] at hx
      split at hx
      · rw [List.mem_singleton] at hx; subst hx; exact hb
      · cases hx
    rw [if_neg k2] at hx
    by_cases k3 : n.kind = 3
    · rw [if_pos k3] at hx
      split at hx
      · rw [List.mem_singleton] at hx; subst hx; exact hb
      · cases hx
    rw [if_neg k3] at hx
    by_cases k4 : n.kind = 4
    · rw [if_pos k4, List.mem_singleton] at hx; subst hx
      cases hs : n.subs with
      | nil => exact hb
      | cons s l => exact inT_row (a := []) h k4 hs
    rw [if_neg k4] at hx
    by_cases k5 : n.kind = 5
    · rw [if_pos k5] at hx
      obtain ⟨s, hs, rfl⟩ := List.mem_map.1 hx
      have := inT_sub h k4 hs
      unfold kidK at this
      rw [if_neg (by rw [k5]; decide), if_neg (by rw [k5]; decide)] at this
      exact this
    rw [if_neg k5] at hx
    by_cases k7 : n.kind = 7
    · rw [if_pos k7] at hx
      split at hx
      · cases hx
      · rename_i s l hs
        rw [List.mem_singleton] at hx; subst hx
        have := inT_sub h k4 (s := s) (by rw [hs]; exact List.mem_cons_self)
        unfold kidK at this
        rw [if_pos k7] at this
        exact this
    rw [if_neg k7] at hx
    by_cases m1 : n.kind = -1
    · rw [if_pos m1] at hx
      unfold choose at hx
      split at hx
      · cases hx
      · rename_i s l hs
        have := inT_sub h k4 (s := s) (by rw [hs]; exact List.mem_cons_self)
        unfold kidK at this
        rw [if_neg k7, if_neg (by rw [m1]; decide)] at this
        split at hx <;> (simp only [List.mem_cons, List.not_mem_nil, or_false] at hx; rcases hx with rfl | rfl)
        · exact hb
        · exact this
        · exact this
        · exact hb
    rw [if_neg m1] at hx
    by_cases m2 : n.kind = -2
    · rw [if_pos m2, List.mem_singleton] at hx; subst hx; exact ⟨h, .inl m2⟩
    rw [if_neg m2] at hx
    by_cases m3 : n.kind = -3
    · rw [if_pos m3] at hx
      split at hx
      · cases hx
      · rename_i s l hs
        rw [List.mem_singleton] at hx; subst hx
        have := inT_sub h k4 (s := s) (by rw [hs]; exact List.mem_cons_self)
        unfold kidK at this
        rw [if_neg k7, if_pos (.inr m3)] at this
        exact this
    rw [if_neg m3] at hx
    cases hx
  decide := fun n K h hl pl nt x hx => by
    have hb := behind_of root .top (self_pos root .top) trivial n K h
    have k4 : n.kind ≠ 4 := by rcases hl with e | e <;> rw [e] <;> decide
    have k7 : n.kind ≠ 7 := by rcases hl with e | e <;> rw [e] <;> decide
    unfold choose at hx
    split at hx
    · cases hx
    · rename_i s l hs
      have hk := inT_sub h k4 (s := s) (by rw [hs]; exact List.mem_cons_self)
      unfold kidK at hk
      rw [if_neg k7, if_pos (show n.kind = -2 ∨ n.kind = -3 from hl)] at hk
      split at hx <;> (simp only [List.mem_cons, List.not_mem_nil, or_false] at hx; rcases hx with rfl | rfl)
      · exact hb
      · exact hk
      · exact hk
      · exact hb
  behind := fun n K h => behind_of root .top (self_pos root .top) trivial n K h
variable {at_ pl : Nat} {nt : List Int}
/-- The walker finds the Ends that the tree leads to, and no others. -/
theorem ends_are {s s' : St} (hd : (root.all.map Un.ad).Nodup) (h : One t at_ s (.beg root pl nt .top) s') (h0 : ∀ m, s.met m = 0) (he : ∀ j, ¬ s.ends j) (j : Nat) : s'.ends j ↔ Lead t root pl j := by
  constructor
  · intro hj
    rcases one_sound h j hj with h1 | ⟨k, h1, h2⟩
    · exact absurd h1 (he j)
    · cases (h2 : k = j)
      exact h1
  · intro hl
    obtain ⟨hd1, hf⟩ := one_full (place_of hd) h (self_pos root .top)
    have hA : AllDone t (InT root) s' := fun n K pl hp => ⟨fun hm nt x hx => (hf n K pl hp).1 hm (by rw [h0]; omega) nt x hx, fun hm nt x hx => (hf n K pl hp).2 hm (by rw [h0]; omega) nt x hx⟩
    exact lead_done (place_of hd) hA hl (self_pos root .top) hd1
end
end Go.Proofs.Ytjeljlgjkjeloaa.Mean
