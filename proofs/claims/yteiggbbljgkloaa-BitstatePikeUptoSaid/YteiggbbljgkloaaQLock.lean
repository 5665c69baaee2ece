/- Lock step and depth first find the same. No program here. -/
import Derived.Test.YteiggbbljgkloaaQMachOk
namespace Go.Proofs.Yteiggbbljgkloaa.Mach

abbrev Met := Nat → Nat → Bool
def mark (M : Met) (i k : Nat) : Met := fun a b => (a == i && b == k) || M a b
abbrev Th := Nat × Nat × List Int
section
variable (p : Prg) (t : List Int)
/-- What follows an instruction at a place, the first to be met first. -/
def succs (x : Ins) (k : Nat) (c : List Int) : List Th :=
  if x.op = 1 then (if k < t.length ∧ memB x.rng (t.getD k 0) = true then [(x.x.toNat, k + 1, c)] else [])
  else if x.op = 2 then [(x.x.toNat, k, c), (x.y.toNat, k, c)]
  else if x.op = 3 then [(x.x.toNat, k, c.set x.arg.toNat k)]
  else if x.op = 4 then (if asB t k x.arg then [(x.x.toNat, k, c)] else [])
  else if x.op = 7 then [(x.x.toNat, k, c)]
  else []
/-- Depth first, from a row of threads on. -/
inductive Big : List Th → Met → Option (List Int × Int) → Met → Prop
  | nil (M : Met) : Big [] M none M
  | skip {i k c s M r M'} : M i k = true → Big s M r M' → Big ((i, k, c) :: s) M r M'
  | hit {i k c s M x} : M i k = false → p.insts[i]? = some x → x.op = 5 → Big ((i, k, c) :: s) M (some (c, x.arg)) (mark M i k)
  | step {i k c s M r M' x} : M i k = false → p.insts[i]? = some x → x.op ≠ 5 → Big (succs t x k c ++ s) (mark M i k) r M' → Big ((i, k, c) :: s) M r M'
variable {p t}
theorem Big.det {s : List Th} {M M' : Met} {r : Option (List Int × Int)} (h : Big p t s M r M') : ∀ {r2 M2}, Big p t s M r2 M2 → r = r2 ∧ M' = M2 := by
  induction h with
  | nil M => intro r2 M2 h2; cases h2; exact ⟨rfl, rfl⟩
  | skip h0 _ ih =>
    intro r2 M2 h2
    cases h2 with
    | skip _ h => exact ih h
    | hit h => rw [h0] at h; cases h
    | step h => rw [h0] at h; cases h
  | hit h0 hx h5 =>
    intro r2 M2 h2
    cases h2 with
    | skip h => rw [h0] at h; cases h
    | hit _ hy _ => rw [hx] at hy; cases hy; exact ⟨rfl, rfl⟩
    | step _ hy hn => rw [hx] at hy; cases hy; exact absurd h5 hn
  | step h0 hx hn _ ih =>
    intro r2 M2 h2
    cases h2 with
    | skip h => rw [h0] at h; cases h
    | hit _ hy h5 => rw [hx] at hy; cases hy; exact absurd h5 hn
    | step _ hy _ h => rw [hx] at hy; cases hy; exact ih h
theorem Big.app_hit {s : List Th} {M M' : Met} {f : List Int × Int} (h : Big p t s M (some f) M') (s2 : List Th) : Big p t (s ++ s2) M (some f) M' := by
  generalize hr : some f = r at h
  induction h with
  | nil M => cases hr
  | skip h0 _ ih => exact .skip h0 (ih hr)
  | hit h0 hx h5 => cases hr; exact .hit h0 hx h5
  | step h0 hx hn _ ih => exact .step h0 hx hn (by have := ih hr; rwa [List.append_assoc] at this)
theorem Big.app {s s2 : List Th} {M M1 M' : Met} {r : Option (List Int × Int)} (h : Big p t s M none M1) (h2 : Big p t s2 M1 r M') : Big p t (s ++ s2) M r M' := by
  generalize hr : (none : Option (List Int × Int)) = r0 at h
  induction h with
  | nil M => exact h2
  | skip h0 _ ih => exact .skip h0 (ih h2 hr)
  | hit => cases hr
  | step h0 hx hn _ ih => exact .step h0 hx hn (by have := ih h2 hr; rwa [List.append_assoc] at this)
theorem Big.split {s : List Th} {M M' : Met} {r : Option (List Int × Int)} (h : Big p t s M r M') : ∀ s1 s2, s = s1 ++ s2 → (∃ f, r = some f ∧ Big p t s1 M (some f) M') ∨ (∃ M1, Big p t s1 M none M1 ∧ Big p t s2 M1 r M') := by
  induction h with
  | nil M =>
    intro s1 s2 hs
    have := List.append_eq_nil_iff.1 hs.symm
    rw [this.1, this.2]
    exact .inr ⟨M, .nil M, .nil M⟩
  | @skip i k c s M r M' h0 hb ih =>
    intro s1 s2 hs
    cases s1 with
    | nil => exact .inr ⟨M, .nil M, by rw [List.nil_append] at hs; rw [← hs]; exact .skip h0 hb⟩
    | cons a s1 =>
      rw [List.cons_append, List.cons.injEq] at hs
      obtain ⟨rfl, hs⟩ := hs
      rcases ih s1 s2 hs with ⟨f, h1, h2⟩ | ⟨M1, h1, h2⟩
      · exact .inl ⟨f, h1, .skip h0 h2⟩
      · exact .inr ⟨M1, .skip h0 h1, h2⟩
  | @hit i k c s M x h0 hx h5 =>
    intro s1 s2 hs
    cases s1 with
    | nil => exact .inr ⟨M, .nil M, by rw [List.nil_append] at hs; rw [← hs]; exact .hit h0 hx h5⟩
    | cons a s1 =>
      rw [List.cons_append, List.cons.injEq] at hs
      obtain ⟨rfl, hs⟩ := hs
      exact .inl ⟨_, rfl, .hit h0 hx h5⟩
  | @step i k c s M r M' x h0 hx hn hb ih =>
    intro s1 s2 hs
    cases s1 with
    | nil => exact .inr ⟨M, .nil M, by rw [List.nil_append] at hs; rw [← hs]; exact .step h0 hx hn hb⟩
    | cons a s1 =>
      rw [List.cons_append, List.cons.injEq] at hs
      obtain ⟨rfl, hs⟩ := hs
      rcases ih (succs t x k c ++ s1) s2 (by rw [hs, List.append_assoc]) with ⟨f, h1, h2⟩ | ⟨M1, h1, h2⟩
      · exact .inl ⟨f, h1, .step h0 hx hn h2⟩
      · exact .inr ⟨M1, .step h0 hx hn h1, h2⟩
theorem succs_place {x : Ins} {k : Nat} {c : List Int} {a : Th} (h : a ∈ succs t x k c) : k ≤ a.2.1 := by
  unfold succs at h
  repeat' split at h
  all_goals simp only [List.mem_cons, List.not_mem_nil, or_false] at h
  all_goals first
    | (rcases h with rfl | rfl <;> exact Nat.le_refl _)
    | (subst h; first | exact Nat.le_refl _ | exact Nat.le_succ _)
/-- What was met below a place does not count above it. -/
theorem Big.above {k0 : Nat} {s : List Th} {M M' : Met} {r : Option (List Int × Int)} (h : Big p t s M r M') : (∀ a ∈ s, k0 ≤ a.2.1) → ∀ N : Met, (∀ i k, k0 ≤ k → N i k = M i k) →
    ∃ N', Big p t s N r N' ∧ (∀ i k, k0 ≤ k → N' i k = M' i k) ∧ (∀ i k, k < k0 → N' i k = N i k) := by
  induction h with
  | nil M => intro _ N hN; exact ⟨N, .nil N, hN, fun _ _ _ => rfl⟩
  | @skip i k c s M r M' h0 _ ih =>
    intro hs N hN
    have hk : k0 ≤ k := hs _ List.mem_cons_self
    obtain ⟨N', h1, h2, h3⟩ := ih (fun a ha => hs a (List.mem_cons_of_mem _ ha)) N hN
    exact ⟨N', .skip ((hN i k hk).trans h0) h1, h2, h3⟩
  | @hit i k c s M x h0 hx h5 =>
    intro hs N hN
    have hk : k0 ≤ k := hs _ List.mem_cons_self
    refine ⟨mark N i k, .hit ((hN i k hk).trans h0) hx h5, fun a b hb => by unfold mark; rw [hN a b hb], fun a b hb => ?_⟩
    unfold mark
    have : (b == k) = false := by rw [beq_eq_false_iff_ne]; omega
    rw [this, Bool.and_false, Bool.false_or]
  | @step i k c s M r M' x h0 hx hn _ ih =>
    intro hs N hN
    have hk : k0 ≤ k := hs _ List.mem_cons_self
    obtain ⟨N', h1, h2, h3⟩ := ih (fun a ha => by
      rcases List.mem_append.1 ha with h | h
      · exact Nat.le_trans hk (succs_place h)
      · exact hs a (List.mem_cons_of_mem _ h)) (mark N i k) (fun a b hb => by unfold mark; rw [hN a b hb])
    refine ⟨N', .step ((hN i k hk).trans h0) hx hn h1, h2, fun a b hb => (h3 a b hb).trans ?_⟩
    unfold mark
    have : (b == k) = false := by rw [beq_eq_false_iff_ne]; omega
    rw [this, Bool.and_false, Bool.false_or]
/-- A row of threads, at a place. -/
def lift (k : Nat) (l : List (Nat × List Int)) : List Th := l.map fun a => (a.1, k, a.2)
def strip (l : List Th) : List (Nat × List Int) := l.map fun a => (a.1, a.2.2)
def addV (V : Nat → Bool) (i : Nat) : Nat → Bool := fun a => a == i || V a
variable (p t)
/-- One place, depth first: the threads of the next place; the match that ends it. -/
inductive Clo (k : Nat) : List (Nat × List Int) → (Nat → Bool) → List (Nat × List Int) → Option (List Int × Int) → (Nat → Bool) → Prop
  | nil (V : Nat → Bool) : Clo k [] V [] none V
  | skip {i c s V E m V'} : V i = true → Clo k s V E m V' → Clo k ((i, c) :: s) V E m V'
  | hit {i c s V x} : V i = false → p.insts[i]? = some x → x.op = 5 → Clo k ((i, c) :: s) V [] (some (c, x.arg)) (addV V i)
  | rune {i c s V E m V' x} : V i = false → p.insts[i]? = some x → x.op = 1 → (k < t.length ∧ memB x.rng (t.getD k 0) = true) → Clo k s (addV V i) E m V' → Clo k ((i, c) :: s) V ((x.x.toNat, c) :: E) m V'
  | out {i c s V E m V' x} : V i = false → p.insts[i]? = some x → x.op = 1 → ¬ (k < t.length ∧ memB x.rng (t.getD k 0) = true) → Clo k s (addV V i) E m V' → Clo k ((i, c) :: s) V E m V'
  | eps {i c s V E m V' x} : V i = false → p.insts[i]? = some x → x.op ≠ 1 → x.op ≠ 5 → Clo k (strip (succs t x k c) ++ s) (addV V i) E m V' → Clo k ((i, c) :: s) V E m V'
variable {p t}
theorem lift_strip {x : Ins} {k : Nat} {c : List Int} (h : x.op ≠ 1) : lift k (strip (succs t x k c)) = succs t x k c := by
  unfold succs lift strip
  rw [if_neg h]
  repeat' split
  all_goals simp
theorem lift_app (k : Nat) (a b : List (Nat × List Int)) : lift k (a ++ b) = lift k a ++ lift k b := by simp [lift]
theorem lift_place {k : Nat} {l : List (Nat × List Int)} {a : Th} (h : a ∈ lift k l) : a.2.1 = k := by
  unfold lift at h
  obtain ⟨b, _, rfl⟩ := List.mem_map.1 h
  rfl
theorem mark_at {M : Met} {V : Nat → Bool} {i k : Nat} (h : ∀ a, M a k = V a) : ∀ a, mark M i k a k = addV V i a := fun a => by unfold mark addV; rw [h a, beq_self_eq_true, Bool.and_true]
theorem mark_far {M : Met} {i k : Nat} : ∀ a b, k < b → mark M i k a b = M a b := fun a b hb => by
  unfold mark
  have : (b == k) = false := by rw [beq_eq_false_iff_ne]; omega
  rw [this, Bool.and_false, Bool.false_or]
/-- One place and those behind it. -/
theorem Clo.big {k : Nat} {s E : List (Nat × List Int)} {V V' : Nat → Bool} {m : Option (List Int × Int)} (h : Clo p t k s V E m V') : ∀ (M : Met), (∀ i, M i k = V i) → ∀ r M1, Big p t (lift (k + 1) E) M r M1 →
    (∀ f, r = some f → ∃ M', Big p t (lift k s) M (some f) M') ∧ (r = none → ∃ M', Big p t (lift k s) M m M' ∧ (m = none → ∀ i k', k < k' → M' i k' = M1 i k')) := by
  induction h with
  | nil V =>
    intro M hM r M1 hb
    cases hb
    exact ⟨by simp, fun _ => ⟨M, .nil M, fun _ _ _ _ => rfl⟩⟩
  | skip h0 _ ih =>
    intro M hM r M1 hb
    obtain ⟨h1, h2⟩ := ih M hM r M1 hb
    refine ⟨fun f hf => ?_, fun hr => ?_⟩
    · obtain ⟨M', h⟩ := h1 f hf; exact ⟨M', .skip ((hM _).trans h0) h⟩
    · obtain ⟨M', h, h3⟩ := h2 hr; exact ⟨M', .skip ((hM _).trans h0) h, h3⟩
  | hit h0 hx h5 =>
    intro M hM r M1 hb
    cases hb
    exact ⟨by simp, fun _ => ⟨_, .hit ((hM _).trans h0) hx h5, by simp⟩⟩
  | @rune i c s V E m V' x h0 hx h1 hf _ ih =>
    intro M hM r M1 hb
    have hs : succs t x k c = [(x.x.toNat, k + 1, c)] := by unfold succs; rw [if_pos h1, if_pos hf]
    have hagree : ∀ a b, k + 1 ≤ b → mark M i k a b = M a b := fun a b hb => mark_far a b hb
    rcases hb.split [(x.x.toNat, k + 1, c)] (lift (k + 1) E) rfl with ⟨f, rfl, hb1⟩ | ⟨Ma, hb1, hb2⟩
    · obtain ⟨N', hN, _, _⟩ := hb1.above (k0 := k + 1) (by simp) (mark M i k) hagree
      refine ⟨fun f' hf' => ?_, by simp⟩
      cases hf'
      exact ⟨N', .step ((hM i).trans h0) hx (by rw [h1]; decide) (by rw [hs]; exact hN.app_hit _)⟩
    · obtain ⟨Na, hN, hN1, hN2⟩ := hb1.above (k0 := k + 1) (by simp) (mark M i k) hagree
      obtain ⟨M1', hb3, hb4, _⟩ := hb2.above (k0 := k + 1) (fun a ha => by rw [lift_place ha]; exact Nat.le_refl _) Na hN1
      obtain ⟨g1, g2⟩ := ih Na (fun a => (hN2 a k (Nat.lt_succ_self k)).trans (mark_at hM a)) r M1' hb3
      refine ⟨fun f hf => ?_, fun hr => ?_⟩
      · obtain ⟨M', h⟩ := g1 f hf
        exact ⟨M', .step ((hM i).trans h0) hx (by rw [h1]; decide) (by rw [hs]; exact hN.app h)⟩
      · obtain ⟨M', h, h3⟩ := g2 hr
        exact ⟨M', .step ((hM i).trans h0) hx (by rw [h1]; decide) (by rw [hs]; exact hN.app h), fun hm a b hb => (h3 hm a b hb).trans (hb4 a b hb)⟩
  | @out i c s V E m V' x h0 hx h1 hf _ ih =>
    intro M hM r M1 hb
    have hs : succs t x k c = [] := by unfold succs; rw [if_pos h1, if_neg hf]
    obtain ⟨M1', hb3, hb4, _⟩ := hb.above (k0 := k + 1) (fun a ha => by rw [lift_place ha]; exact Nat.le_refl _) (mark M i k) (fun a b hb => mark_far a b hb)
    obtain ⟨g1, g2⟩ := ih (mark M i k) (mark_at hM) r M1' hb3
    refine ⟨fun f hf => ?_, fun hr => ?_⟩
    · obtain ⟨M', h⟩ := g1 f hf
      exact ⟨M', .step ((hM i).trans h0) hx (by rw [h1]; decide) (by rw [hs]; exact h)⟩
    · obtain ⟨M', h, h3⟩ := g2 hr
      exact ⟨M', .step ((hM i).trans h0) hx (by rw [h1]; decide) (by rw [hs]; exact h), fun hm a b hb => (h3 hm a b hb).trans (hb4 a b hb)⟩
  | @eps i c s V E m V' x h0 hx h1 h5 _ ih =>
    intro M hM r M1 hb
    obtain ⟨M1', hb3, hb4, _⟩ := hb.above (k0 := k + 1) (fun a ha => by rw [lift_place ha]; exact Nat.le_refl _) (mark M i k) (fun a b hb => mark_far a b hb)
    obtain ⟨g1, g2⟩ := ih (mark M i k) (mark_at hM) r M1' hb3
    rw [lift_app, lift_strip h1] at g1 g2
    refine ⟨fun f hf => ?_, fun hr => ?_⟩
    · obtain ⟨M', h⟩ := g1 f hf
      exact ⟨M', .step ((hM i).trans h0) hx h5 h⟩
    · obtain ⟨M', h, h3⟩ := g2 hr
      exact ⟨M', .step ((hM i).trans h0) hx h5 h, fun hm a b hb => (h3 hm a b hb).trans (hb4 a b hb)⟩
theorem Clo.last {k : Nat} {s E : List (Nat × List Int)} {V V' : Nat → Bool} {m : Option (List Int × Int)} (h : Clo p t k s V E m V') (hk : t.length ≤ k) : E = [] := by
  induction h with
  | nil => rfl
  | skip _ _ ih => exact ih
  | hit => rfl
  | rune _ _ _ hf => exact absurd hf.1 (by omega)
  | out _ _ _ _ _ ih => exact ih
  | eps _ _ _ _ _ ih => exact ih
/-- Two rows, one behind the other. -/
theorem Clo.app {k : Nat} {s E E2 s2 : List (Nat × List Int)} {V V1 V' : Nat → Bool} {m : Option (List Int × Int)} (h : Clo p t k s V E none V1) (h2 : Clo p t k s2 V1 E2 m V') : Clo p t k (s ++ s2) V (E ++ E2) m V' := by
  generalize hr : (none : Option (List Int × Int)) = r0 at h
  induction h with
  | nil V => exact h2
  | skip h0 _ ih => exact .skip h0 (ih h2 hr)
  | hit => cases hr
  | rune h0 hx h1 hf _ ih => exact .rune h0 hx h1 hf (ih h2 hr)
  | out h0 hx h1 hf _ ih => exact .out h0 hx h1 hf (ih h2 hr)
  | eps h0 hx h1 h5 _ ih => exact .eps h0 hx h1 h5 (by have := ih h2 hr; rwa [List.append_assoc] at this)
theorem Clo.app_hit {k : Nat} {s E : List (Nat × List Int)} {V V1 : Nat → Bool} {f : List Int × Int} (h : Clo p t k s V E (some f) V1) (s2 : List (Nat × List Int)) : Clo p t k (s ++ s2) V E (some f) V1 := by
  generalize hr : some f = r0 at h
  induction h with
  | nil V => cases hr
  | skip h0 _ ih => exact .skip h0 (ih hr)
  | hit h0 hx h5 => cases hr; exact .hit h0 hx h5
  | rune h0 hx h1 hf _ ih => exact .rune h0 hx h1 hf (ih hr)
  | out h0 hx h1 hf _ ih => exact .out h0 hx h1 hf (ih hr)
  | eps h0 hx h1 h5 _ ih => exact .eps h0 hx h1 h5 (by have := ih hr; rwa [List.append_assoc] at this)
variable (p t)
def noCaps : List Int := List.replicate p.caps.toNat (-1)
def startTh : Nat × List Int := (p.start.toNat, noCaps p)
/-- Lock step, from a place on: the threads there; may it begin behind it? -/
inductive Lock : Nat → List (Nat × List Int) → Bool → Option (List Int × Int) → Prop
  | last {l op E m V} : Clo p t t.length l (fun _ => false) E m V → Lock t.length l op m
  | next {k l op E m V r} : k < t.length → Clo p t k l (fun _ => false) E m V → Lock (k + 1) (E ++ if op && m.isNone then [startTh p] else []) (op && m.isNone) r → Lock k l op (r <|> m)
/-- The begins from a place on. -/
def beg (op : Bool) (k : Nat) : List Th := if op then (List.range (t.length + 1 - k)).map fun j => (p.start.toNat, k + j, noCaps p) else []
variable {p t}
theorem beg_place {op : Bool} {k : Nat} {a : Th} (h : a ∈ beg p t op k) : k ≤ a.2.1 := by
  unfold beg at h
  split at h
  · obtain ⟨j, _, rfl⟩ := List.mem_map.1 h
    exact Nat.le_add_right _ _
  · cases h
theorem beg_next {op : Bool} {k : Nat} (hk : k ≤ t.length) : beg p t op k = lift k (if op then [startTh p] else []) ++ beg p t op (k + 1) := by
  unfold beg
  cases op with
  | false => rfl
  | true =>
    simp only [if_true]
    rw [show t.length + 1 - k = (t.length + 1 - (k + 1)) + 1 from by omega, List.range_succ_eq_map, List.map_cons, List.map_map]
    simp only [lift, startTh, List.map_cons, List.map_nil, List.cons_append, List.nil_append, Nat.add_zero, List.cons.injEq, true_and]
    refine List.map_congr_left fun j _ => ?_
    simp only [Function.comp, Nat.succ_eq_add_one, Prod.mk.injEq, and_true, true_and]
    omega
theorem Lock.big {k : Nat} {l : List (Nat × List Int)} {op : Bool} {res : Option (List Int × Int)} (h : Lock p t k l op res) : ∀ M : Met, (∀ i k', k ≤ k' → M i k' = false) → ∃ M', Big p t (lift k l ++ beg p t op (k + 1)) M res M' := by
  induction h with
  | @last l op E m V hc =>
    intro M hM
    have hE := hc.last (Nat.le_refl _)
    subst hE
    obtain ⟨_, h2⟩ := hc.big M (fun i => hM i _ (Nat.le_refl _)) none M (.nil M)
    obtain ⟨M', h, _⟩ := h2 rfl
    have hb : beg p t op (t.length + 1) = [] := by unfold beg; simp
    rw [hb, List.append_nil]
    exact ⟨M', h⟩
  | @next k l op E m V r hk hc _ ih =>
    intro M hM
    obtain ⟨M1, hb⟩ := ih M (fun i k' h => hM i k' (by omega))
    rw [lift_app, List.append_assoc, ← beg_next (by omega)] at hb
    rcases hb.split _ _ rfl with ⟨f, rfl, hb1⟩ | ⟨Ma, hb1, hb2⟩
    · obtain ⟨h1, _⟩ := hc.big M (fun i => hM i _ (Nat.le_refl _)) _ _ hb1
      obtain ⟨M', h⟩ := h1 f rfl
      exact ⟨M', h.app_hit _⟩
    · obtain ⟨_, h2⟩ := hc.big M (fun i => hM i _ (Nat.le_refl _)) _ _ hb1
      obtain ⟨M', h, h3⟩ := h2 rfl
      cases m with
      | some f =>
        simp only [Option.isNone_some, Bool.and_false] at hb2
        have hbb : beg p t false (k + 1) = [] := rfl
        rw [hbb] at hb2
        cases hb2
        exact ⟨M', h.app_hit _⟩
      | none =>
        simp only [Option.isNone_none, Bool.and_true] at hb2
        obtain ⟨M1', hb3, _, _⟩ := hb2.above (k0 := k + 1) (fun a ha => beg_place ha) M' (fun a b hb => h3 rfl a b hb)
        refine ⟨M1', ?_⟩
        have : (r <|> none) = r := by cases r <;> rfl
        rw [this]
        exact h.app hb3
theorem Lock.nil : ∀ (n k : Nat), k + n = t.length → Lock p t k [] false none
  | 0, k, h => by
    obtain rfl : k = t.length := by omega
    exact .last (.nil _)
  | n + 1, k, h => by
    have := Lock.next (p := p) (op := false) (show k < t.length by omega) (.nil _) (by simpa using Lock.nil n (k + 1) (by omega))
    simpa using this
end

/-! ### The machine of chapter 12 goes depth first -/
section
variable {p : Prg} {t : List Int} {at_ : Nat}
/-- What is to be done, each pair with its captures. -/
def flatJ : List Job → List Int → List Th
  | [], _ => []
  | .pair i k :: r, c => (i, k, c) :: flatJ r c
  | .back a old :: r, c => flatJ r (c.set a old)
/-- What is met, off the map. -/
def metOf (p : Prg) (t : List Int) (at_ : Nat) (met : List Bool) : Met := fun i k => if i < p.insts.length ∧ at_ ≤ k ∧ k ≤ t.length then met.getD (bitOf t at_ i k) true else false
theorem bit_inj {i k i' k' : Nat} (h1 : at_ ≤ k ∧ k ≤ t.length) (h2 : at_ ≤ k' ∧ k' ≤ t.length) (h : bitOf t at_ i k = bitOf t at_ i' k') : i = i' ∧ k = k' := by
  unfold bitOf places at h
  have e1 : k - at_ < t.length - at_ + 1 := by omega
  have e2 : k' - at_ < t.length - at_ + 1 := by omega
  have a1 : (i * (t.length - at_ + 1) + (k - at_)) / (t.length - at_ + 1) = i := by rw [Nat.mul_comm, Nat.mul_add_div (by omega), Nat.div_eq_of_lt e1, Nat.add_zero]
  have a2 : (i' * (t.length - at_ + 1) + (k' - at_)) / (t.length - at_ + 1) = i' := by rw [Nat.mul_comm, Nat.mul_add_div (by omega), Nat.div_eq_of_lt e2, Nat.add_zero]
  have hi : i = i' := by rw [← a1, h, a2]
  subst hi
  exact ⟨rfl, by omega⟩
theorem metOf_set {met : List Bool} {i k : Nat} (hm : met.length = p.insts.length * places t at_) (h : JobOk p t at_ (.pair i k)) : metOf p t at_ (met.set (bitOf t at_ i k) true) = mark (metOf p t at_ met) i k := by
  funext a b
  unfold metOf mark
  have hq := bit_lt h
  obtain ⟨h1, h2⟩ := h
  by_cases hr : a < p.insts.length ∧ at_ ≤ b ∧ b ≤ t.length
  · simp only [if_pos hr]
    by_cases he : a = i ∧ b = k
    · obtain ⟨rfl, rfl⟩ := he
      simp only [beq_self_eq_true, Bool.and_true, Bool.true_or]
      rw [List.getD_eq_getElem?_getD, List.getElem?_set_self (by omega)]; rfl
    · have hne : bitOf t at_ i k ≠ bitOf t at_ a b := fun e => he (by obtain ⟨x, y⟩ := bit_inj h2 hr.2 e; exact ⟨x.symm, y.symm⟩)
      have hb : (a == i && b == k) = false := by
        rw [Bool.and_eq_false_iff, beq_eq_false_iff_ne, beq_eq_false_iff_ne]
        by_cases ha : a = i
        · exact .inr fun hb => he ⟨ha, hb⟩
        · exact .inl ha
      rw [hb, Bool.false_or, List.getD_eq_getElem?_getD, List.getElem?_set_ne hne, ← List.getD_eq_getElem?_getD]
  · simp only [if_neg hr]
    have hb : (a == i && b == k) = false := by
      rw [Bool.and_eq_false_iff, beq_eq_false_iff_ne, beq_eq_false_iff_ne]
      by_cases ha : a = i
      · exact .inr fun hb => hr ⟨by rw [ha]; exact h1, by rw [hb]; exact h2⟩
      · exact .inl ha
    rw [hb]; rfl
def resOf (s : MS) : Option (List Int × Int) := s.fin.map fun w => (s.caps, w)
theorem eff_flat (x : Ins) (k : Nat) (s : MS) (h5 : x.op ≠ 5) (hcap : x.op = 3 → x.arg.toNat < s.caps.length) : flatJ (eff t x k s).todo (eff t x k s).caps = succs t x k s.caps ++ flatJ s.todo s.caps := by
  unfold eff succs
  split
  · split <;> rfl
  · split
    · rfl
    · split
      · rename_i h3
        simp only [flatJ, List.set_set, List.cons_append, List.nil_append]
        congr 1
        have hl := hcap h3
        congr 1
        have : s.caps.getD x.arg.toNat 0 = s.caps[x.arg.toNat] := by rw [List.getD_eq_getElem?_getD, List.getElem?_eq_getElem hl]; rfl
        rw [this, List.set_getElem_self]
      · split
        · split <;> rfl
        · first
          | (split <;> first | rfl | (split <;> rfl) | exact absurd ‹_› h5)
theorem final_big (hc : checkB p = true) : ∀ (n : Nat) (s : MS), Ok p t at_ s → s.fin = none → halted (iter p t at_ n s) → Big p t (flatJ s.todo s.caps) (metOf p t at_ s.met) (resOf (iter p t at_ n s)) (metOf p t at_ (iter p t at_ n s).met)
  | n, s, hok, hf, hh => by
    match ht : s.todo with
    | [] =>
      have hst : iter p t at_ n s = s := halt_iter p t at_ (.inr ht) n
      rw [hst, resOf, hf]
      exact .nil _
    | j :: r =>
      match n with
      | 0 =>
        rcases hh with h | h
        · exact absurd hf h
        · rw [iter, ht] at h; cases h
      | n + 1 =>
        rw [iter] at hh ⊢
        have hok2 := Ok.step hc hok
        match j, ht with
        | .back a old, ht =>
          have hs := mstep_back (p := p) (t := t) (at_ := at_) hf ht
          have := final_big hc n _ hok2 (by rw [hs]; exact hf) hh
          rw [hs] at this ⊢
          exact this
        | .pair i k, ht =>
          have hjk := hok.jobs _ (by rw [ht]; exact List.mem_cons_self)
          have hr : i < p.insts.length ∧ at_ ≤ k ∧ k ≤ t.length := hjk
          by_cases hm : s.met.getD (bitOf t at_ i k) true = true
          · have hs := mstep_met (p := p) (t := t) (at_ := at_) hf ht hm
            have := final_big hc n _ hok2 (by rw [hs]; exact hf) hh
            rw [hs] at this ⊢
            exact .skip (by unfold metOf; rw [if_pos hr]; exact hm) this
          · have hm' : s.met.getD (bitOf t at_ i k) true = false := by simpa using hm
            have hM : metOf p t at_ s.met i k = false := by unfold metOf; rw [if_pos hr]; exact hm'
            obtain ⟨x, hx⟩ : ∃ x, p.insts[i]? = some x := ⟨_, List.getElem?_eq_getElem hr.1⟩
            have hs := mstep_pair (p := p) (t := t) (at_ := at_) hf ht hm' hx
            by_cases h5 : x.op = 5
            · have hE : eff t x k { s with todo := r, met := s.met.set (bitOf t at_ i k) true, steps := s.steps + 1 } = { s with todo := r, met := s.met.set (bitOf t at_ i k) true, steps := s.steps + 1, fin := some x.arg } := by unfold eff; simp [h5]
              rw [hE] at hs
              rw [hs] at hh ⊢
              rw [halt_iter p t at_ (.inl (by simp))]
              simp only [resOf, Option.map_some]
              rw [metOf_set hok.met hjk]
              exact .hit hM hx h5
            · have hmay := may_of hc hx
              have hfl := eff_flat (t := t) x k { s with todo := r, met := s.met.set (bitOf t at_ i k) true, steps := s.steps + 1 } h5 (fun h3 => by
                have h1 := (may_arg hmay h3)
                have h2 := hok.caps
                simp only []
                omega)
              have hfin : (eff t x k { s with todo := r, met := s.met.set (bitOf t at_ i k) true, steps := s.steps + 1 }).fin = none := by
                unfold eff
                repeat' split
                all_goals first | exact hf | (exact absurd ‹_› h5)
              have hmet : (eff t x k { s with todo := r, met := s.met.set (bitOf t at_ i k) true, steps := s.steps + 1 }).met = s.met.set (bitOf t at_ i k) true := by
                unfold eff
                repeat' split
                all_goals rfl
              have := final_big hc n _ hok2 (by rw [hs]; exact hfin) hh
              rw [hs] at this ⊢
              rw [hfl, hmet, metOf_set hok.met hjk] at this
              exact .step hM hx h5 this
/-- What is found from a place on, all begins behind one another. -/
theorem search_big (hc : checkB p = true) (hat : at_ ≤ t.length) {anch : Bool} : ∀ (n b : Nat) (met : List Bool) (steps : Nat), at_ ≤ b → b + n = t.length + 1 → 0 < n → met.length = p.insts.length * places t at_ → steps + met.count false ≤ met.length →
    ∃ M', Big p t (lift b [startTh p] ++ beg p t (!anch) (b + 1)) (metOf p t at_ met) (search p t at_ anch n b met steps).1 M'
  | n + 1, b, met, steps, h1, h2, _, h3, h4 => by
    have hok0 := Ok.start (p := p) (t := t) (at_ := at_) hc hat (b := b) ⟨h1, by omega⟩ h3 h4
    have hok : Ok p t at_ (final p t at_ (begin_ p b met steps)) := by
      unfold final
      generalize meas (begin_ p b met steps) = q
      have : ∀ n s, Ok p t at_ s → Ok p t at_ (iter p t at_ n s) := by
        intro n
        induction n with
        | zero => intro s h; exact h
        | succ n ih => intro s h; rw [iter]; exact ih _ (Ok.step hc h)
      exact this _ _ hok0
    have hb := final_big hc (meas (begin_ p b met steps)) _ hok0 rfl (iter_halts p t at_ _ _ (Nat.le_refl _))
    change Big p t [(p.start.toNat, b, noCaps p)] (metOf p t at_ met) (resOf (final p t at_ (begin_ p b met steps))) (metOf p t at_ (final p t at_ (begin_ p b met steps)).met) at hb
    rw [search]
    cases hf : (final p t at_ (begin_ p b met steps)).fin with
    | some w =>
      rw [resOf, hf] at hb
      exact ⟨_, hb.app_hit _⟩
    | none =>
      rw [resOf, hf] at hb
      cases anch with
      | true =>
        simp only [if_true]
        exact ⟨_, hb.app (.nil _)⟩
      | false =>
        simp only [Bool.false_eq_true, if_false]
        match n, h2 with
        | 0, h2 =>
          have hbb : beg p t (!false) (b + 1) = [] := by unfold beg; rw [show t.length + 1 - (b + 1) = 0 from by omega]; rfl
          rw [hbb, search]
          exact ⟨_, hb.app (.nil _)⟩
        | n + 1, h2 =>
          obtain ⟨M', h⟩ := search_big hc hat (anch := false) (n + 1) (b + 1) (final p t at_ (begin_ p b met steps)).met (final p t at_ (begin_ p b met steps)).steps (by omega) (by omega) (by omega) hok.met hok.steps
          rw [beg_next (k := b + 1) (by omega)]
          exact ⟨M', hb.app h⟩
/-- Lock step finds what the search finds. -/
theorem lock_search (hc : checkB p = true) (hat : at_ ≤ t.length) {anch : Bool} {res : Option (List Int × Int)} (h : Lock p t at_ [startTh p] (!anch) res) :
    (search p t at_ anch (t.length + 1 - at_) at_ (List.replicate (p.insts.length * places t at_) false) 0).1 = res := by
  have h0 : ∀ i k', at_ ≤ k' → metOf p t at_ (List.replicate (p.insts.length * places t at_) false) i k' = false := by
    intro i k' hk
    unfold metOf
    split
    · rename_i hr
      have hq := bit_lt (p := p) (t := t) (at_ := at_) (i := i) (k := k') hr
      rw [List.getD_eq_getElem?_getD, List.getElem?_replicate, if_pos hq]; rfl
    · rfl
  obtain ⟨M', h1⟩ := h.big _ h0
  obtain ⟨M2, h2⟩ := search_big hc hat (anch := anch) (t.length + 1 - at_) at_ (List.replicate (p.insts.length * places t at_) false) 0 (Nat.le_refl _) (by omega) (by omega) (by simp) (by simp)
  exact (h2.det h1).1
end
end Go.Proofs.Yteiggbbljgkloaa.Mach
