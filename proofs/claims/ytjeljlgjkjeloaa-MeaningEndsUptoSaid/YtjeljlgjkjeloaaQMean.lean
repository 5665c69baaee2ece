/- What meaning's walker does: walks of an unfolded tree, depth first, each mark once. No program here. -/
import Derived.Test.YtjeljlgjkjeloaaQMemB
namespace Go.Proofs.Ytjeljlgjkjeloaa.Mean
open Go.Proofs.Ytjeljlgjkjeloaa.Mach

/-- An unfolded tree; each node at its block. Loops: -1 x?, -2 x*, -3 x+. -/
inductive Un where
  | mk (ad : Nat) (kind : Int) (rng : List (Int × Int)) (ast ix : Int) (lz : Bool) (subs : List Un)
def Un.ad : Un → Nat | .mk a _ _ _ _ _ _ => a
def Un.kind : Un → Int | .mk _ k _ _ _ _ _ => k
def Un.rng : Un → List (Int × Int) | .mk _ _ r _ _ _ _ => r
def Un.ast : Un → Int | .mk _ _ _ a _ _ _ => a
def Un.ix : Un → Int | .mk _ _ _ _ i _ _ => i
def Un.lz : Un → Bool | .mk _ _ _ _ _ z _ => z
def Un.subs : Un → List Un | .mk _ _ _ _ _ _ l => l
/-- What comes behind a node. -/
inductive Kt where
  | top
  | row (l : List Un) (K : Kt)
  | grp (i : Int) (K : Kt)
  | dec (n : Un) (K : Kt)
/-- What is to be done. -/
inductive Task where
  | beg (n : Un) (pl : Nat) (nt : List Int) (K : Kt)
  | dcd (n : Un) (pl : Nat) (nt : List Int) (K : Kt)
  | go (K : Kt) (pl : Nat) (nt : List Int)
abbrev Mark := Nat × Nat × Bool
/-- How often a mark was come to; the parses; how often any mark was come to. -/
structure St where
  met : Mark → Nat
  out : List (Nat × List Int)
  calls : Nat
def St.mark (s : St) (m : Mark) : St := ⟨fun x => if x = m then s.met x + 1 else s.met x, s.out, s.calls + 1⟩
def rowT (l : List Un) (pl : Nat) (nt : List Int) (K : Kt) : Task :=
  match l with
  | [] => .go K pl nt
  | s :: l => .beg s pl nt (.row l K)
def choose (n : Un) (pl : Nat) (nt : List Int) (again K : Kt) : List Task :=
  match n.subs with
  | [] => []
  | s :: _ => if n.lz then [.go K pl nt, .beg s pl nt again] else [.beg s pl nt again, .go K pl nt]
section
variable (t : List Int) (at_ : Nat)
/-- What begins when a node is begun for the first time. -/
def first (n : Un) (pl : Nat) (nt : List Int) (K : Kt) : List Task :=
  if n.kind = 1 then [.go K pl nt]
  else if n.kind = 2 then (if pl < t.length ∧ memB n.rng (t.getD pl 0) = true then [.go K (pl + 1) nt] else [])
  else if n.kind = 3 then (if asB t pl n.ast then [.go K pl nt] else [])
  else if n.kind = 4 then [rowT n.subs pl nt K]
  else if n.kind = 5 then n.subs.map fun s => .beg s pl nt K
  else if n.kind = 7 then (match n.subs with | [] => [] | s :: _ => [.beg s pl (nt.set (2 * n.ix).toNat pl) (.grp n.ix K)])
  else if n.kind = -1 then choose n pl nt K K
  else if n.kind = -2 then [.dcd n pl nt K]
  else if n.kind = -3 then (match n.subs with | [] => [] | s :: _ => [.beg s pl nt (.dec n K)])
  else []
/-- A parse that ends there, if there is none yet. -/
def ended (s : St) (pl : Nat) (nt : List Int) : St :=
  if s.out.any (fun p => p.1 == pl) then s else ⟨s.met, s.out ++ [(pl, (nt.set 0 at_).set 1 pl)], s.calls⟩
/-- One task: the state behind it, and what begins. -/
def work (s : St) : Task → St × List Task
  | .beg n pl nt K => (s.mark (n.ad, pl, false), if s.met (n.ad, pl, false) = 0 then first t n pl nt K else [])
  | .dcd n pl nt K => (s.mark (n.ad, pl, true), if s.met (n.ad, pl, true) = 0 then choose n pl nt (.dec n K) K else [])
  | .go .top pl nt => (ended at_ s pl nt, [])
  | .go (.row l K) pl nt => (s, [rowT l pl nt K])
  | .go (.grp i K) pl nt => (s, [.go K pl (nt.set (2 * i + 1).toNat pl)])
  | .go (.dec n K) pl nt => (s, [.dcd n pl nt K])
mutual
/-- A task, done to its end. -/
inductive One : St → Task → St → Prop where
  | mk {s s' : St} {k : Task} : Many (work t at_ s k).1 (work t at_ s k).2 s' → One s k s'
inductive Many : St → List Task → St → Prop where
  | nil {s : St} : Many s [] s
  | cons {s s1 s2 : St} {k : Task} {l : List Task} : One s k s1 → Many s1 l s2 → Many s (k :: l) s2
end
end
/-! ### each walk comes to an end -/
mutual
def Un.all : Un → List Un
  | .mk a k r b i z l => .mk a k r b i z l :: allU l
def allU : List Un → List Un
  | [] => []
  | u :: l => u.all ++ allU l
end
theorem allU_flat : ∀ l : List Un, allU l = l.flatMap Un.all
  | [] => rfl
  | u :: l => by rw [allU, allU_flat l]; rfl
theorem all_subs (u : Un) : u.all = u :: allU u.subs := by cases u; rw [Un.all]; rfl
def Kt.uses (U : List Un) : Kt → Prop
  | .top => True
  | .row l K => (∀ s ∈ l, s ∈ U) ∧ K.uses U
  | .grp _ K => K.uses U
  | .dec n K => n ∈ U ∧ K.uses U
def Task.uses (U : List Un) (P : Nat) : Task → Prop
  | .beg n pl _ K => n ∈ U ∧ pl ≤ P ∧ K.uses U
  | .dcd n pl _ K => n ∈ U ∧ pl ≤ P ∧ K.uses U
  | .go K pl _ => K.uses U ∧ pl ≤ P
/-- Nodes whose subs are among them. -/
def Closed (U : List Un) : Prop := ∀ n ∈ U, ∀ s ∈ n.subs, s ∈ U
/-- All marks. -/
def marks (U : List Un) (P : Nat) : List Mark := U.flatMap fun n => (List.range (P + 1)).flatMap fun p => [(n.ad, p, false), (n.ad, p, true)]
def unmet (U : List Un) (P : Nat) (s : St) : Nat := (marks U P).countP fun m => decide (s.met m = 0)
theorem mark_mem {U : List Un} {P : Nat} {n : Un} (hn : n ∈ U) {pl : Nat} (hp : pl ≤ P) (b : Bool) : (n.ad, pl, b) ∈ marks U P := by
  refine List.mem_flatMap.2 ⟨n, hn, List.mem_flatMap.2 ⟨pl, List.mem_range.2 (by omega), ?_⟩⟩
  cases b <;> simp
theorem countP_less {α : Type} {l : List α} {f g : α → Bool} (h : ∀ x ∈ l, f x = true → g x = true) {m : α} (hm : m ∈ l) (hf : f m = false) (hg : g m = true) : l.countP f < l.countP g := by
  induction l with
  | nil => cases hm
  | cons a l ih =>
    rw [List.countP_cons, List.countP_cons]
    have hle : l.countP f ≤ l.countP g := List.countP_mono_left fun x hx => h x (List.mem_cons_of_mem _ hx)
    rcases List.mem_cons.1 hm with rfl | hm
    · rw [hf, hg]; simp; omega
    · have h1 := ih (fun x hx => h x (List.mem_cons_of_mem _ hx)) hm
      have h2 := h a List.mem_cons_self
      cases hfa : f a with
      | false => simp; omega
      | true => rw [h2 hfa]; simp; omega
theorem mark_zero {s : St} {m x : Mark} (h : decide ((s.mark m).met x = 0) = true) : decide (s.met x = 0) = true := by
  rw [decide_eq_true_eq] at h ⊢
  unfold St.mark at h
  simp only [] at h
  by_cases e : x = m
  · rw [if_pos e] at h; omega
  · rw [if_neg e] at h; exact h
theorem unmet_mark {U : List Un} {P : Nat} {s : St} {m : Mark} (hm : m ∈ marks U P) (h0 : s.met m = 0) : unmet U P (s.mark m) < unmet U P s := by
  exact countP_less (fun x _ hx => mark_zero hx) hm (by simp [St.mark]) (by simpa using h0)
theorem unmet_mark_le {U : List Un} {P : Nat} {s : St} {m : Mark} : unmet U P (s.mark m) ≤ unmet U P s := by
  exact List.countP_mono_left fun x _ hx => mark_zero hx
def Kt.deep : Kt → Nat
  | .top => 0
  | .row _ K => K.deep + 1
  | .grp _ K => K.deep + 1
  | .dec _ K => K.deep + 1
def Task.deep : Task → Nat
  | .beg _ _ _ _ => 0
  | .dcd _ _ _ _ => 0
  | .go K _ _ => K.deep + 1
section
variable {t : List Int} {at_ : Nat} {U : List Un}
theorem rowT_uses {l : List Un} {pl : Nat} {nt : List Int} {K : Kt} (hl : ∀ s ∈ l, s ∈ U) (hp : pl ≤ t.length) (hK : K.uses U) : (rowT l pl nt K).uses U t.length := by
  cases l with
  | nil => exact ⟨hK, hp⟩
  | cons s l => exact ⟨hl s List.mem_cons_self, hp, (⟨fun x hx => hl x (List.mem_cons_of_mem _ hx), hK⟩ : (∀ x ∈ l, x ∈ U) ∧ K.uses U)⟩
theorem choose_uses (hU : Closed U) {n : Un} (hn : n ∈ U) {pl : Nat} {nt : List Int} {again K : Kt} (hp : pl ≤ t.length) (h1 : again.uses U) (h2 : K.uses U) : ∀ k ∈ choose n pl nt again K, k.uses U t.length := by
  unfold choose
  intro k hk
  cases hs : n.subs with
  | nil => rw [hs] at hk; cases hk
  | cons s l =>
    rw [hs] at hk
    have hsu : s ∈ U := hU n hn s (by rw [hs]; exact List.mem_cons_self)
    simp only [] at hk
    split at hk <;> (simp only [List.mem_cons, List.not_mem_nil, or_false] at hk; rcases hk with rfl | rfl)
    · exact ⟨h2, hp⟩
    · exact ⟨hsu, hp, h1⟩
    · exact ⟨hsu, hp, h1⟩
    · exact ⟨h2, hp⟩
theorem first_uses (hU : Closed U) {n : Un} (hn : n ∈ U) {pl : Nat} {nt : List Int} {K : Kt} (hp : pl ≤ t.length) (hK : K.uses U) : ∀ k ∈ first t n pl nt K, k.uses U t.length := by
  have hsub := hU n hn
  unfold first
  intro k hk
  split at hk
  · simp only [List.mem_singleton] at hk; subst hk; exact ⟨hK, hp⟩
  split at hk
  · split at hk
    · rename_i h
      simp only [List.mem_singleton] at hk; subst hk; exact ⟨hK, h.1⟩
    · cases hk
  split at hk
  · split at hk
    · simp only [List.mem_singleton] at hk; subst hk; exact ⟨hK, hp⟩
    · cases hk
  split at hk
  · simp only [List.mem_singleton] at hk; subst hk; exact rowT_uses hsub hp hK
  split at hk
  · obtain ⟨s, hs, rfl⟩ := List.mem_map.1 hk
    exact ⟨hsub s hs, hp, hK⟩
  split at hk
  · split at hk
    · cases hk
    · rename_i s l hs
      simp only [List.mem_singleton] at hk; subst hk
      exact ⟨hsub s (by rw [hs]; exact List.mem_cons_self), hp, hK⟩
  split at hk
  · exact choose_uses hU hn hp hK hK k hk
  split at hk
  · simp only [List.mem_singleton] at hk; subst hk; exact ⟨hn, hp, hK⟩
  split at hk
  · split at hk
    · cases hk
    · rename_i s l hs
      simp only [List.mem_singleton] at hk; subst hk
      have h1 : s ∈ U := hsub s (by rw [hs]; exact List.mem_cons_self)
      have h2 : (Kt.dec n K).uses U := show n ∈ U ∧ K.uses U from ⟨hn, hK⟩
      exact ⟨h1, hp, h2⟩
  · cases hk
theorem work_uses (hU : Closed U) {s : St} {k : Task} (hk : k.uses U t.length) : ∀ x ∈ (work t at_ s k).2, x.uses U t.length := by
  intro x hx
  cases k with
  | beg n pl nt K =>
    simp only [work] at hx
    split at hx
    · exact first_uses hU hk.1 hk.2.1 hk.2.2 x hx
    · cases hx
  | dcd n pl nt K =>
    simp only [work] at hx
    split at hx
    · exact choose_uses (again := .dec n K) hU hk.1 hk.2.1 (show n ∈ U ∧ K.uses U from ⟨hk.1, hk.2.2⟩) hk.2.2 x hx
    · cases hx
  | go K pl nt =>
    cases K with
    | top => simp only [work] at hx; cases hx
    | row l K => simp only [work, List.mem_singleton] at hx; subst hx; exact rowT_uses hk.1.1 hk.2 hk.1.2
    | grp i K => simp only [work, List.mem_singleton] at hx; subst hx; exact ⟨hk.1, hk.2⟩
    | dec n K => simp only [work, List.mem_singleton] at hx; subst hx; exact ⟨hk.1.1, hk.2, hk.1.2⟩
theorem rowT_deep (l : List Un) (pl : Nat) (nt : List Int) (K : Kt) : (rowT l pl nt K).deep ≤ K.deep + 1 := by
  cases l with
  | nil => exact Nat.le_refl _
  | cons s l => exact Nat.zero_le _
/-- A task that begins no node or decision has tasks that go less deep. -/
theorem work_deep {s : St} {K : Kt} {pl : Nat} {nt : List Int} : unmet U t.length (work t at_ s (.go K pl nt)).1 = unmet U t.length s ∧ ∀ x ∈ (work t at_ s (.go K pl nt)).2, x.deep < (Task.go K pl nt).deep := by
  cases K with
  | top =>
    refine ⟨?_, by simp [work]⟩
    simp only [work, ended]
    split <;> rfl
  | row l K => refine ⟨rfl, fun x hx => ?_⟩; simp only [work, List.mem_singleton] at hx; subst hx; have := rowT_deep l pl nt K; show (rowT l pl nt K).deep < (K.deep + 1) + 1; omega
  | grp i K => refine ⟨rfl, fun x hx => ?_⟩; simp only [work, List.mem_singleton] at hx; subst hx; simp only [Task.deep, Kt.deep]; omega
  | dec n K => refine ⟨rfl, fun x hx => ?_⟩; simp only [work, List.mem_singleton] at hx; subst hx; simp only [Task.deep, Kt.deep]; omega
/-- Each task comes to an end; no more is unmet than before. -/
theorem one_total (hU : Closed U) : ∀ (n d : Nat) (s : St) (k : Task), unmet U t.length s ≤ n → k.deep ≤ d → k.uses U t.length → ∃ s', One t at_ s k s' ∧ unmet U t.length s' ≤ unmet U t.length s := by
  intro n
  induction n using Nat.strongRecOn with
  | ind n ihn =>
    intro d
    induction d with
    | zero =>
      intro s k hn hd hk
      -- a node or a decision
      have hmany : ∀ (l : List Task) (u : St), unmet U t.length u < n → (∀ x ∈ l, x.uses U t.length) → ∃ s', Many t at_ u l s' ∧ unmet U t.length s' ≤ unmet U t.length u := by
        intro l
        induction l with
        | nil => intro u _ _; exact ⟨u, .nil, Nat.le_refl _⟩
        | cons x l ih =>
          intro u hu hl
          obtain ⟨s1, h1, h2⟩ := ihn _ hu x.deep u x (Nat.le_refl _) (Nat.le_refl _) (hl x List.mem_cons_self)
          obtain ⟨s2, h3, h4⟩ := ih s1 (by omega) fun y hy => hl y (List.mem_cons_of_mem _ hy)
          exact ⟨s2, .cons h1 h3, by omega⟩
      have hwu := work_uses (t := t) (at_ := at_) hU (s := s) hk
      cases k with
      | go K pl nt => simp [Task.deep] at hd
      | beg m pl nt K =>
        by_cases h0 : s.met (m.ad, pl, false) = 0
        · have hlt := unmet_mark (mark_mem hk.1 hk.2.1 false) h0
          obtain ⟨s', h1, h2⟩ := hmany (work t at_ s (.beg m pl nt K)).2 (work t at_ s (.beg m pl nt K)).1 (by simp only [work]; omega) hwu
          exact ⟨s', .mk h1, by simp only [work] at h2; omega⟩
        · refine ⟨_, .mk (by simp only [work, if_neg h0]; exact .nil), unmet_mark_le⟩
      | dcd m pl nt K =>
        by_cases h0 : s.met (m.ad, pl, true) = 0
        · have hlt := unmet_mark (mark_mem hk.1 hk.2.1 true) h0
          obtain ⟨s', h1, h2⟩ := hmany (work t at_ s (.dcd m pl nt K)).2 (work t at_ s (.dcd m pl nt K)).1 (by simp only [work]; omega) hwu
          exact ⟨s', .mk h1, by simp only [work] at h2; omega⟩
        · refine ⟨_, .mk (by simp only [work, if_neg h0]; exact .nil), unmet_mark_le⟩
    | succ d ihd =>
      intro s k hn hd hk
      by_cases hd0 : k.deep ≤ d
      · exact ihd s k hn hd0 hk
      cases k with
      | beg m pl nt K => simp [Task.deep] at hd0
      | dcd m pl nt K => simp [Task.deep] at hd0
      | go K pl nt =>
        obtain ⟨hw1, hw2⟩ := work_deep (t := t) (at_ := at_) (U := U) (s := s) (K := K) (pl := pl) (nt := nt)
        have hwu := work_uses (t := t) (at_ := at_) hU (s := s) hk
        have hmany : ∀ (l : List Task) (u : St), unmet U t.length u ≤ n → (∀ x ∈ l, x.uses U t.length) → (∀ x ∈ l, x.deep ≤ d) → ∃ s', Many t at_ u l s' ∧ unmet U t.length s' ≤ unmet U t.length u := by
          intro l
          induction l with
          | nil => intro u _ _ _; exact ⟨u, .nil, Nat.le_refl _⟩
          | cons x l ih =>
            intro u hu hl hd
            obtain ⟨s1, h1, h2⟩ := ihd u x hu (hd x List.mem_cons_self) (hl x List.mem_cons_self)
            obtain ⟨s2, h3, h4⟩ := ih s1 (by omega) (fun y hy => hl y (List.mem_cons_of_mem _ hy)) fun y hy => hd y (List.mem_cons_of_mem _ hy)
            exact ⟨s2, .cons h1 h3, by omega⟩
        obtain ⟨s', h1, h2⟩ := hmany _ (work t at_ s (.go K pl nt)).1 (by omega) hwu fun x hx => by have := hw2 x hx; omega
        exact ⟨s', .mk h1, by omega⟩
/-- How many tasks begin. -/
theorem first_len {M : Nat} (hM : 2 ≤ M) {n : Un} (hn : n.subs.length ≤ M) (pl : Nat) (nt : List Int) (K : Kt) : (first t n pl nt K).length ≤ M := by
  have hc : ∀ again : Kt, (choose n pl nt again K).length ≤ M := fun again => by
    unfold choose
    split
    · simp
    · split <;> (simp only [List.length_cons, List.length_nil]; omega)
  unfold first
  repeat' split
  all_goals first | exact hc _ | (simp only [List.length_cons, List.length_nil, List.length_map]; omega)
theorem choose_len {M : Nat} (hM : 2 ≤ M) (n : Un) (pl : Nat) (nt : List Int) (again K : Kt) : (choose n pl nt again K).length ≤ M := by
  unfold choose
  split
  · simp
  · split <;> (simp only [List.length_cons, List.length_nil]; omega)
mutual
/-- What is come to at most. -/
theorem one_calls (hU : Closed U) {M : Nat} (hM : 2 ≤ M) (hl : ∀ n ∈ U, n.subs.length ≤ M) : ∀ {s s' : St} {k : Task}, One t at_ s k s' → k.uses U t.length → s'.calls + M * unmet U t.length s' ≤ s.calls + M * unmet U t.length s + 1
  | s, s', k, .mk h, hk => by
    have hm := many_calls hU hM hl h (work_uses hU hk)
    cases k with
    | go K pl nt =>
      cases K with
      | top =>
        simp only [work, ended, List.length_nil] at hm
        split at hm <;> (simp only [unmet] at hm ⊢; omega)
      | row l K => simp only [work, List.length_cons, List.length_nil] at hm; omega
      | grp i K => simp only [work, List.length_cons, List.length_nil] at hm; omega
      | dec n K => simp only [work, List.length_cons, List.length_nil] at hm; omega
    | beg n pl nt K =>
      simp only [work] at hm
      by_cases h0 : s.met (n.ad, pl, false) = 0
      · rw [if_pos h0] at hm
        have h1 := unmet_mark (mark_mem hk.1 hk.2.1 false) h0
        have h2 := first_len (t := t) hM (hl n hk.1) pl nt K
        have h3 : M * (unmet U t.length (s.mark (n.ad, pl, false)) + 1) ≤ M * unmet U t.length s := Nat.mul_le_mul_left _ h1
        rw [Nat.mul_succ] at h3
        have h4 : (s.mark (n.ad, pl, false)).calls = s.calls + 1 := rfl
        omega
      · rw [if_neg h0] at hm
        have h3 : M * unmet U t.length (s.mark (n.ad, pl, false)) ≤ M * unmet U t.length s := Nat.mul_le_mul_left _ unmet_mark_le
        have h4 : (s.mark (n.ad, pl, false)).calls = s.calls + 1 := rfl
        simp only [List.length_nil] at hm
        omega
    | dcd n pl nt K =>
      simp only [work] at hm
      by_cases h0 : s.met (n.ad, pl, true) = 0
      · rw [if_pos h0] at hm
        have h1 := unmet_mark (mark_mem hk.1 hk.2.1 true) h0
        have h2 := choose_len hM n pl nt (.dec n K) K
        have h3 : M * (unmet U t.length (s.mark (n.ad, pl, true)) + 1) ≤ M * unmet U t.length s := Nat.mul_le_mul_left _ h1
        rw [Nat.mul_succ] at h3
        have h4 : (s.mark (n.ad, pl, true)).calls = s.calls + 1 := rfl
        omega
      · rw [if_neg h0] at hm
        have h3 : M * unmet U t.length (s.mark (n.ad, pl, true)) ≤ M * unmet U t.length s := Nat.mul_le_mul_left _ unmet_mark_le
        have h4 : (s.mark (n.ad, pl, true)).calls = s.calls + 1 := rfl
        simp only [List.length_nil] at hm
        omega
theorem many_calls (hU : Closed U) {M : Nat} (hM : 2 ≤ M) (hl : ∀ n ∈ U, n.subs.length ≤ M) : ∀ {s s' : St} {l : List Task}, Many t at_ s l s' → (∀ k ∈ l, k.uses U t.length) → s'.calls + M * unmet U t.length s' ≤ s.calls + M * unmet U t.length s + l.length
  | s, _, [], .nil, _ => Nat.le_refl _
  | s, s', k :: l, .cons h1 h2, hk => by
    have e1 := one_calls hU hM hl h1 (hk k List.mem_cons_self)
    have e2 := many_calls hU hM hl h2 fun x hx => hk x (List.mem_cons_of_mem _ hx)
    rw [List.length_cons]
    omega
end
end
end Go.Proofs.Ytjeljlgjkjeloaa.Mean
