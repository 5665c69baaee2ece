/- The machine's search: what failed once fails again; so a search that goes on from place to place finds what a search from that place alone finds. No program here. -/
import Derived.Test.YtclbbfkgdhmheaaQMemB
import Derived.Test.YtclbbfkgdhmheaaQSimp
namespace Go.Proofs.Ytclbbfkgdhmheaa.Mach
section
variable (p : Prg) (t : List Int)
/-- Where an instruction at a place goes on. -/
def nexts (x : Ins) (k : Nat) : List (Nat × Nat) :=
  if x.op = 1 then (if k < t.length ∧ memB x.rng (t.getD k 0) = true then [(x.x.toNat, k + 1)] else [])
  else if x.op = 2 then [(x.x.toNat, k), (x.y.toNat, k)]
  else if x.op = 3 then [(x.x.toNat, k)]
  else if x.op = 4 then (if asB t k x.arg then [(x.x.toNat, k)] else [])
  else if x.op = 7 then [(x.x.toNat, k)]
  else []
def jobs (l : List (Nat × Nat)) : List Job := l.map fun q => .pair q.1 q.2
def under (x : Ins) (caps : List Int) : List Job := if x.op = 3 then [.back x.arg.toNat (caps.getD x.arg.toNat 0)] else []
def capsAt (x : Ins) (k : Nat) (caps : List Int) : List Int := if x.op = 3 then caps.set x.arg.toNat k else caps
theorem eff_eq (x : Ins) (k : Nat) (s : MS) : eff t x k s = ⟨jobs (nexts t x k) ++ (under x s.caps ++ s.todo), s.met, capsAt x k s.caps, s.steps, if x.op = 5 then some x.arg else s.fin⟩ := by
  unfold eff nexts under capsAt jobs
  by_cases h1 : x.op = 1
  · simp only [h1, if_true]
    split <;> simp
  rw [if_neg h1, if_neg h1]
  by_cases h2 : x.op = 2
  · simp [h2]
  rw [if_neg h2, if_neg h2]
  by_cases h3 : x.op = 3
  · simp [h3]
  rw [if_neg h3, if_neg h3, if_neg h3, if_neg h3]
  by_cases h4 : x.op = 4
  · simp only [h4, if_true]
    split <;> simp
  rw [if_neg h4, if_neg h4]
  by_cases h5 : x.op = 5
  · simp [h5]
  rw [if_neg h5, if_neg h5]
  by_cases h7 : x.op = 7
  · simp [h7]
  rw [if_neg h7, if_neg h7]
  simp
variable (at_ : Nat)
/-- Was a pair met? -/
def mP (s : MS) (i k : Nat) : Prop := s.met.getD (bitOf t at_ i k) true = true
variable {p t at_}
theorem bit_inj {i k i' k' : Nat} (h : JobOk p t at_ (.pair i k)) (h' : JobOk p t at_ (.pair i' k')) (e : bitOf t at_ i k = bitOf t at_ i' k') : i = i' ∧ k = k' := by
  obtain ⟨-, h2, h3⟩ := h
  obtain ⟨-, h2', h3'⟩ := h'
  unfold bitOf places at e
  have hp : 0 < t.length - at_ + 1 := by omega
  have a1 : (i * (t.length - at_ + 1) + (k - at_)) / (t.length - at_ + 1) = i := by
    rw [Nat.add_comm, Nat.add_mul_div_right _ _ hp, Nat.div_eq_of_lt (by omega), Nat.zero_add]
  have a2 : (i' * (t.length - at_ + 1) + (k' - at_)) / (t.length - at_ + 1) = i' := by
    rw [Nat.add_comm, Nat.add_mul_div_right _ _ hp, Nat.div_eq_of_lt (by omega), Nat.zero_add]
  rw [e, a2] at a1
  subst a1
  exact ⟨rfl, by omega⟩
theorem mP_set {met : List Bool} {r : List Job} {c : List Int} {n : Nat} {f : Option Int} {s : MS} (hm : s.met = met) (hl : met.length = p.insts.length * places t at_) {i k i' k' : Nat} (h : JobOk p t at_ (.pair i k)) (h' : JobOk p t at_ (.pair i' k')) :
    mP t at_ ⟨r, met.set (bitOf t at_ i k) true, c, n, f⟩ i' k' ↔ mP t at_ s i' k' ∨ (i' = i ∧ k' = k) := by
  unfold mP
  subst hm
  simp only []
  have hb := bit_lt h
  by_cases e : bitOf t at_ i k = bitOf t at_ i' k'
  · have hh := bit_inj h h' e
    rw [← e, List.getD_eq_getElem?_getD, List.getElem?_set_self (by omega)]
    exact ⟨fun _ => .inr ⟨hh.1.symm, hh.2.symm⟩, fun _ => rfl⟩
  · rw [List.getD_eq_getElem?_getD, List.getElem?_set_ne e, ← List.getD_eq_getElem?_getD]
    refine ⟨.inl, fun hh => hh.elim id fun hh => ?_⟩
    exact absurd (by rw [hh.1, hh.2]) e
theorem iter_add : ∀ (a b : Nat) (s : MS), iter p t at_ (a + b) s = iter p t at_ b (iter p t at_ a s)
  | 0, b, s => by rw [Nat.zero_add]; rfl
  | a + 1, b, s => by rw [Nat.succ_add, iter, iter_add a b]; rfl
theorem Ok.iter_ (hc : checkB p = true) : ∀ (n : Nat) {s : MS}, Ok p t at_ s → Ok p t at_ (iter p t at_ n s)
  | 0, _, h => h
  | n + 1, _, h => Ok.iter_ hc n (h.step hc)
theorem final_iter (n : Nat) (s : MS) : final p t at_ (iter p t at_ n s) = final p t at_ s := by
  have h := iter_halts p t at_ (iter p t at_ n s) _ (Nat.le_refl _)
  rw [← iter_add] at h
  have := final_of p t at_ h
  rw [iter_add] at this
  exact this
theorem final_halted {s : MS} (h : halted s) : final p t at_ s = s := halt_iter p t at_ h _
theorem final_halts (s : MS) : halted (final p t at_ s) := iter_halts p t at_ s _ (Nat.le_refl _)
theorem set_back (caps : List Int) (a : Nat) (k : Int) : (caps.set a k).set a (caps.getD a 0) = caps := by
  rw [List.set_set]
  by_cases h : a < caps.length
  · rw [List.getD_eq_getElem?_getD, List.getElem?_eq_getElem h, Option.getD_some, List.set_getElem_self]
  · rw [List.set_eq_of_length_le (by omega)]
/-- Pairs from which nothing is found. -/
structure Fails (p : Prg) (t : List Int) (F : Nat → Nat → Prop) : Prop where
  ok : ∀ i k, F i k → i < p.insts.length ∧ k ≤ t.length
  next : ∀ i k x, F i k → p.insts[i]? = some x → x.op ≠ 5 ∧ ∀ q ∈ nexts t x k, F q.1 q.2
theorem nexts_le {x : Ins} {k : Nat} {q : Nat × Nat} (h : q ∈ nexts t x k) : k ≤ q.2 := by
  unfold nexts at h
  repeat' split at h
  all_goals simp at h
  all_goals first | (subst h; simp) | (rcases h with rfl | rfl <;> simp)
/-- Behind what failed: the rest of what is to be done, the same captures. -/
structure Behind (p : Prg) (t : List Int) (at_ : Nat) (F : Nat → Nat → Prop) (r : List Job) (s s' : MS) : Prop where
  todo : s'.todo = r
  caps : s'.caps = s.caps
  fin : s'.fin = none
  less : unmet s' ≤ unmet s
  old : ∀ i k, mP t at_ s i k → mP t at_ s' i k
  new : ∀ i k, JobOk p t at_ (.pair i k) → mP t at_ s' i k → mP t at_ s i k ∨ F i k
theorem fail_list {F : Nat → Nat → Prop} {n : Nat} (hc : checkB p = true)
    (P : ∀ (s : MS) (i k : Nat) (r : List Job), unmet s ≤ n → Ok p t at_ s → s.fin = none → s.todo = .pair i k :: r → F i k → ∃ m, Behind p t at_ F r s (iter p t at_ m s)) :
    ∀ (l : List (Nat × Nat)) (s : MS) (r : List Job), unmet s ≤ n → Ok p t at_ s → s.fin = none → s.todo = jobs l ++ r → (∀ q ∈ l, F q.1 q.2) → ∃ m, Behind p t at_ F r s (iter p t at_ m s)
  | [], s, r, _, _, hf, ht, _ => ⟨0, ht, rfl, hf, Nat.le_refl _, fun _ _ h => h, fun _ _ _ h => .inl h⟩
  | q :: l, s, r, hn, ho, hf, ht, hl => by
    obtain ⟨m1, h1⟩ := P s q.1 q.2 (jobs l ++ r) hn ho hf ht (hl q List.mem_cons_self)
    obtain ⟨m2, h2⟩ := fail_list hc P l _ r (Nat.le_trans h1.less hn) (ho.iter_ hc m1) h1.fin h1.todo fun q hq => hl q (List.mem_cons_of_mem _ hq)
    refine ⟨m1 + m2, ?_⟩
    rw [iter_add]
    exact ⟨h2.todo, h2.caps.trans h1.caps, h2.fin, Nat.le_trans h2.less h1.less, fun i k h => h2.old i k (h1.old i k h), fun i k hj h => (h2.new i k hj h).elim (h1.new i k hj) .inr⟩
theorem fail_pair {F : Nat → Nat → Prop} (hF : Fails p t F) (hc : checkB p = true) : ∀ (n : Nat) (s : MS) (i k : Nat) (r : List Job), unmet s ≤ n → Ok p t at_ s → s.fin = none → s.todo = .pair i k :: r → F i k → ∃ m, Behind p t at_ F r s (iter p t at_ m s) := by
  intro n
  induction n with
  | zero =>
    intro s i k r hn ho hf ht hik
    have hj := ho.jobs (.pair i k) (by rw [ht]; exact List.mem_cons_self)
    have hq : s.met.getD (bitOf t at_ i k) true = true := by
      cases hb : s.met.getD (bitOf t at_ i k) true with
      | true => rfl
      | false =>
        have := count_set hb
        unfold unmet at hn
        omega
    refine ⟨1, ?_⟩
    rw [show iter p t at_ 1 s = mstep p t at_ s from rfl, mstep_met hf ht hq]
    exact ⟨rfl, rfl, hf, Nat.le_refl _, fun _ _ h => h, fun _ _ _ h => .inl h⟩
  | succ n ih =>
    intro s i k r hn ho hf ht hik
    have hj := ho.jobs (.pair i k) (by rw [ht]; exact List.mem_cons_self)
    cases hq : s.met.getD (bitOf t at_ i k) true with
    | true =>
      refine ⟨1, ?_⟩
      rw [show iter p t at_ 1 s = mstep p t at_ s from rfl, mstep_met hf ht hq]
      exact ⟨rfl, rfl, hf, Nat.le_refl _, fun _ _ h => h, fun _ _ _ h => .inl h⟩
    | false =>
      obtain ⟨x, hx⟩ : ∃ x, p.insts[i]? = some x := ⟨_, List.getElem?_eq_getElem hj.1⟩
      obtain ⟨h5, hnx⟩ := hF.next i k x hik hx
      have hst := mstep_pair hf ht hq hx
      rw [eff_eq, if_neg h5] at hst
      simp only [] at hst
      have ho1 := ho.step hc
      rw [hst] at ho1
      have hum : unmet (mstep p t at_ s) + 1 = unmet s := by rw [hst]; exact unmet_set (s := s) hq
      have hmp : ∀ i' k', JobOk p t at_ (.pair i' k') → (mP t at_ (mstep p t at_ s) i' k' ↔ mP t at_ s i' k' ∨ (i' = i ∧ k' = k)) := fun i' k' hj' => by rw [hst]; exact mP_set (s := s) rfl ho.met hj hj'
      have hml : ∀ i' k', mP t at_ s i' k' → mP t at_ (mstep p t at_ s) i' k' := fun i' k' h => by
        rw [hst]
        unfold mP at h ⊢
        simp only []
        by_cases e : bitOf t at_ i k = bitOf t at_ i' k'
        · rw [e] at hq; rw [hq] at h; cases h
        · rw [List.getD_eq_getElem?_getD, List.getElem?_set_ne e, ← List.getD_eq_getElem?_getD]; exact h
      obtain ⟨m, hb⟩ := fail_list hc ih (nexts t x k) (mstep p t at_ s) (under x s.caps ++ r) (by omega) (ho.step hc) (by rw [hst]; exact hf) (by rw [hst]) hnx
      have hcap : (mstep p t at_ s).caps = capsAt x k s.caps := by rw [hst]
      have hnew : ∀ i' k', JobOk p t at_ (.pair i' k') → mP t at_ (iter p t at_ m (mstep p t at_ s)) i' k' → mP t at_ s i' k' ∨ F i' k' := fun i' k' hj' h => by
        rcases hb.new i' k' hj' h with h | h
        · rcases (hmp i' k' hj').1 h with h | ⟨rfl, rfl⟩
          · exact .inl h
          · exact .inr hik
        · exact .inr h
      by_cases h3 : x.op = 3
      · have hu : under x s.caps = [.back x.arg.toNat (s.caps.getD x.arg.toNat 0)] := by unfold under; rw [if_pos h3]
        have hca : capsAt x k s.caps = s.caps.set x.arg.toNat k := by unfold capsAt; rw [if_pos h3]
        have hbt := hb.todo
        rw [hu] at hbt
        have hlast := mstep_back (p := p) (t := t) (at_ := at_) hb.fin hbt
        refine ⟨1 + m + 1, ?_⟩
        rw [iter_add, iter_add, show iter p t at_ 1 s = mstep p t at_ s from rfl, show ∀ u : MS, iter p t at_ 1 u = mstep p t at_ u from fun _ => rfl, hlast]
        refine ⟨rfl, ?_, hb.fin, ?_, fun i' k' h => hb.old i' k' (hml i' k' h), hnew⟩
        · show (iter p t at_ m (mstep p t at_ s)).caps.set _ _ = _
          rw [hb.caps, hcap, hca, set_back]
        · have := hb.less; exact Nat.le_trans this (by omega)
      · have hu : under x s.caps = [] := by unfold under; rw [if_neg h3]
        have hca : capsAt x k s.caps = s.caps := by unfold capsAt; rw [if_neg h3]
        refine ⟨1 + m, ?_⟩
        rw [iter_add, show iter p t at_ 1 s = mstep p t at_ s from rfl]
        refine ⟨by rw [hb.todo, hu]; rfl, by rw [hb.caps, hcap, hca], hb.fin, by have := hb.less; omega, fun i' k' h => hb.old i' k' (hml i' k' h), hnew⟩
/-- Two machines side by side: the second one leaves what failed. -/
structure Sim (p : Prg) (t : List Int) (a1 a2 : Nat) (F : Nat → Nat → Prop) (s1 s2 : MS) : Prop where
  todo : s1.todo = s2.todo
  caps : s1.caps = s2.caps
  fin : s1.fin = s2.fin
  met : ∀ i k, JobOk p t a1 (.pair i k) → (mP t a1 s1 i k ∨ F i k ↔ mP t a2 s2 i k)
theorem jobOk_le {a1 a2 : Nat} (h : a2 ≤ a1) {j : Job} (hj : JobOk p t a1 j) : JobOk p t a2 j := by
  cases j with
  | pair i k => exact ⟨hj.1, Nat.le_trans h hj.2.1, hj.2.2⟩
  | back c o => exact hj
theorem sim_final {a1 a2 : Nat} {F : Nat → Nat → Prop} (hF : Fails p t F) (hc : checkB p = true) (h12 : a2 ≤ a1) : ∀ (n : Nat) (s1 s2 : MS), meas s2 ≤ n → Ok p t a1 s1 → Ok p t a2 s2 → Sim p t a1 a2 F s1 s2 →
    Sim p t a1 a2 F (final p t a1 s1) (final p t a2 s2) := by
  intro n
  induction n with
  | zero =>
    intro s1 s2 hn ho1 ho2 hs
    have h2 : halted s2 := by
      have := iter_halts p t a2 s2 0 hn
      exact this
    have h1 : halted s1 := by unfold halted at h2 ⊢; rw [hs.todo, hs.fin]; exact h2
    rw [final_halted h1, final_halted h2]
    exact hs
  | succ n ih =>
    intro s1 s2 hn ho1 ho2 hs
    by_cases h2 : halted s2
    · have h1 : halted s1 := by unfold halted at h2 ⊢; rw [hs.todo, hs.fin]; exact h2
      rw [final_halted h1, final_halted h2]
      exact hs
    · have hless := step_less p t a2 h2
      rw [show final p t a2 s2 = final p t a2 (mstep p t a2 s2) from (final_iter 1 s2).symm]
      unfold halted at h2
      simp only [not_or, ne_eq, Classical.not_not] at h2
      obtain ⟨hf2, ht2⟩ := h2
      have hf1 : s1.fin = none := hs.fin.trans hf2
      match hd : s2.todo, ht2 with
      | .back c old :: r, _ =>
        have hd1 : s1.todo = .back c old :: r := hs.todo.trans hd
        rw [show final p t a1 s1 = final p t a1 (mstep p t a1 s1) from (final_iter 1 s1).symm]
        refine ih _ _ (by omega) (ho1.step hc) (ho2.step hc) ?_
        rw [mstep_back hf1 hd1, mstep_back hf2 hd]
        exact ⟨rfl, by simp only []; rw [hs.caps], hs.fin, hs.met⟩
      | .pair i k :: r, _ =>
        have hd1 : s1.todo = .pair i k :: r := hs.todo.trans hd
        have hj1 := ho1.jobs (.pair i k) (by rw [hd1]; exact List.mem_cons_self)
        have hj2 := jobOk_le h12 hj1
        have hmk := hs.met i k hj1
        cases hq2 : s2.met.getD (bitOf t a2 i k) true with
        | true =>
          have hm2 := mstep_met (p := p) (t := t) (at_ := a2) hf2 hd hq2
          rcases hmk.2 hq2 with hq1 | hq1
          · rw [show final p t a1 s1 = final p t a1 (mstep p t a1 s1) from (final_iter 1 s1).symm]
            refine ih _ _ (by omega) (ho1.step hc) (ho2.step hc) ?_
            rw [mstep_met hf1 hd1 hq1, hm2]
            exact ⟨rfl, hs.caps, hs.fin, hs.met⟩
          · obtain ⟨m, hb⟩ := fail_pair hF hc _ s1 i k r (Nat.le_refl _) ho1 hf1 hd1 hq1
            rw [show final p t a1 s1 = final p t a1 (iter p t a1 m s1) from (final_iter m s1).symm]
            refine ih _ _ (by omega) (ho1.iter_ hc m) (ho2.step hc) ?_
            rw [hm2]
            refine ⟨hb.todo, hb.caps.trans hs.caps, hb.fin.trans hf2.symm, fun i' k' hj => ?_⟩
            rw [show mP t a2 { s2 with todo := r } i' k' ↔ mP t a2 s2 i' k' from Iff.rfl, ← hs.met i' k' hj]
            exact ⟨fun h => h.elim (hb.new i' k' hj) .inr, fun h => h.elim (fun h => .inl (hb.old i' k' h)) .inr⟩
        | false =>
          have hq1 : s1.met.getD (bitOf t a1 i k) true = false := by
            cases h : s1.met.getD (bitOf t a1 i k) true with
            | false => rfl
            | true => have := hmk.1 (.inl h); unfold mP at this; rw [hq2] at this; cases this
          obtain ⟨x, hx⟩ : ∃ x, p.insts[i]? = some x := ⟨_, List.getElem?_eq_getElem hj1.1⟩
          have e1 := mstep_pair (p := p) (t := t) (at_ := a1) hf1 hd1 hq1 hx
          have e2 := mstep_pair (p := p) (t := t) (at_ := a2) hf2 hd hq2 hx
          rw [eff_eq] at e1 e2
          simp only [] at e1 e2
          rw [show final p t a1 s1 = final p t a1 (mstep p t a1 s1) from (final_iter 1 s1).symm]
          refine ih _ _ (by omega) (ho1.step hc) (ho2.step hc) ?_
          rw [e1, e2]
          refine ⟨by simp only []; rw [hs.caps], by simp only []; rw [hs.caps], by simp only []; rw [hs.fin], fun i' k' hj => ?_⟩
          rw [mP_set (s := s1) rfl ho1.met hj1 hj, mP_set (s := s2) rfl ho2.met hj2 (jobOk_le h12 hj), ← hs.met i' k' hj]
          exact ⟨fun h => h.elim (fun h => h.elim (fun h => .inl (.inl h)) .inr) (fun h => .inl (.inr h)), fun h => h.elim (fun h => h.elim (fun h => .inl (.inl h)) .inr) (fun h => .inl (.inr h))⟩
/-- Of each pair that was met, what comes next is met or to be done. -/
def Shut (p : Prg) (t : List Int) (at_ : Nat) (s : MS) : Prop := ∀ i k x, JobOk p t at_ (.pair i k) → mP t at_ s i k → p.insts[i]? = some x → s.fin = none → x.op ≠ 5 ∧ ∀ q ∈ nexts t x k, mP t at_ s q.1 q.2 ∨ .pair q.1 q.2 ∈ s.todo
theorem Shut.step {s : MS} (hc : checkB p = true) (ho : Ok p t at_ s) (h : Shut p t at_ s) : Shut p t at_ (mstep p t at_ s) := by
  by_cases hh : halted s
  · rw [halt_stay p t at_ hh]; exact h
  unfold halted at hh
  simp only [not_or, ne_eq, Classical.not_not] at hh
  obtain ⟨hf, ht⟩ := hh
  match hd : s.todo, ht with
  | .back c old :: r, _ =>
    rw [mstep_back hf hd]
    intro i k x hj hm hx hfn
    obtain ⟨h5, hq⟩ := h i k x hj hm hx hf
    refine ⟨h5, fun q hqm => (hq q hqm).imp id fun hm => ?_⟩
    rw [hd] at hm
    exact (List.mem_cons.1 hm).resolve_left (by simp)
  | .pair i0 k0 :: r, _ =>
    have hj0 := ho.jobs (.pair i0 k0) (by rw [hd]; exact List.mem_cons_self)
    cases hq0 : s.met.getD (bitOf t at_ i0 k0) true with
    | true =>
      rw [mstep_met hf hd hq0]
      intro i k x hj hm hx hfn
      obtain ⟨h5, hq⟩ := h i k x hj hm hx hf
      refine ⟨h5, fun q hqm => (hq q hqm).elim .inl fun hm => ?_⟩
      rw [hd] at hm
      rcases List.mem_cons.1 hm with e | hm
      · simp only [Job.pair.injEq] at e
        rw [e.1, e.2]
        exact .inl hq0
      · exact .inr hm
    | false =>
      obtain ⟨x0, hx0⟩ : ∃ x, p.insts[i0]? = some x := ⟨_, List.getElem?_eq_getElem hj0.1⟩
      have e0 := mstep_pair (p := p) (t := t) (at_ := at_) hf hd hq0 hx0
      rw [eff_eq] at e0
      simp only [] at e0
      rw [e0]
      intro i k x hj hm hx hfn
      simp only [] at hfn
      have h5 : x0.op ≠ 5 := fun e => by rw [if_pos e] at hfn; cases hfn
      rcases (mP_set (s := s) rfl ho.met hj0 hj).1 hm with hm | ⟨rfl, rfl⟩
      · obtain ⟨h5', hq⟩ := h i k x hj hm hx hf
        refine ⟨h5', fun q hqm => ?_⟩
        have hle : JobOk p t at_ (.pair q.1 q.2) ∨ True := .inr trivial
        rcases hq q hqm with hm2 | hm2
        · refine .inl ?_
          unfold mP at hm2 ⊢
          simp only []
          by_cases e : bitOf t at_ i0 k0 = bitOf t at_ q.1 q.2
          · rw [e] at hq0; rw [hq0] at hm2; cases hm2
          · rw [List.getD_eq_getElem?_getD, List.getElem?_set_ne e, ← List.getD_eq_getElem?_getD]; exact hm2
        · rw [hd] at hm2
          rcases List.mem_cons.1 hm2 with e | hm2
          · simp only [Job.pair.injEq] at e
            refine .inl ?_
            rw [e.1, e.2]
            exact (mP_set (s := s) rfl ho.met hj0 hj0).2 (.inr ⟨rfl, rfl⟩)
          · exact .inr (by simp only [List.mem_append]; exact .inr (.inr hm2))
      · have : x = x0 := Option.some.inj (hx.symm.trans hx0)
        subst this
        refine ⟨h5, fun q hqm => .inr ?_⟩
        simp only [List.mem_append]
        exact .inl (List.mem_map.2 ⟨q, hqm, rfl⟩)
theorem Shut.iter_ (hc : checkB p = true) : ∀ (n : Nat) {s : MS}, Ok p t at_ s → Shut p t at_ s → Shut p t at_ (iter p t at_ n s)
  | 0, _, _, h => h
  | n + 1, _, ho, h => Shut.iter_ hc n (ho.step hc) (h.step hc ho)
theorem nexts_ok {x : Ins} {k : Nat} (hx : mayB x p.insts.length p.caps = true) (hk : k ≤ t.length) {q : Nat × Nat} (h : q ∈ nexts t x k) : q.1 < p.insts.length ∧ q.2 ≤ t.length := by
  unfold nexts at h
  by_cases h1 : x.op = 1
  · obtain ⟨a, b⟩ := may_x hx (.inl h1)
    rw [if_pos h1] at h
    split at h
    · rename_i hh
      simp at h; subst h; simp only []; omega
    · simp at h
  rw [if_neg h1] at h
  by_cases h2 : x.op = 2
  · obtain ⟨a, b⟩ := may_x hx (.inr (.inl h2))
    obtain ⟨a', b'⟩ := may_y hx h2
    rw [if_pos h2] at h
    simp at h
    rcases h with rfl | rfl <;> (simp only []; omega)
  rw [if_neg h2] at h
  by_cases h3 : x.op = 3
  · obtain ⟨a, b⟩ := may_x hx (.inr (.inr (.inl h3)))
    rw [if_pos h3] at h
    simp at h; subst h; simp only []; omega
  rw [if_neg h3] at h
  by_cases h4 : x.op = 4
  · obtain ⟨a, b⟩ := may_x hx (.inr (.inr (.inr (.inl h4))))
    rw [if_pos h4] at h
    split at h
    · simp at h; subst h; simp only []; omega
    · simp at h
  rw [if_neg h4] at h
  by_cases h7 : x.op = 7
  · obtain ⟨a, b⟩ := may_x hx (.inr (.inr (.inr (.inr h7))))
    rw [if_pos h7] at h
    simp at h; subst h; simp only []; omega
  · rw [if_neg h7] at h; simp at h
/-- All that was met when nothing was found fails. -/
theorem shut_fails {s : MS} (hc : checkB p = true) (h : Shut p t at_ s) (hf : s.fin = none) (ht : s.todo = []) : Fails p t fun i k => JobOk p t at_ (.pair i k) ∧ mP t at_ s i k := by
  refine ⟨fun i k hh => ⟨hh.1.1, hh.1.2.2⟩, fun i k x hh hx => ?_⟩
  obtain ⟨h5, hq⟩ := h i k x hh.1 hh.2 hx hf
  refine ⟨h5, fun q hqm => ⟨?_, (hq q hqm).resolve_right (by rw [ht]; simp)⟩⟩
  have h1 := nexts_ok (t := t) (may_of hc hx) hh.1.2.2 hqm
  exact ⟨h1.1, Nat.le_trans hh.1.2.1 (nexts_le hqm), h1.2⟩
end
section
variable (p : Prg) (t : List Int)
/-- The run from one place alone. -/
def oneAt (i : Nat) : MS := final p t i (begin_ p i (List.replicate (p.insts.length * places t i) false) 0)
variable {p t}
theorem rep_getD {n q : Nat} (h : q < n) : (List.replicate n false).getD q true = false := by
  rw [List.getD_eq_getElem?_getD, List.getElem?_replicate, if_pos h]; rfl
theorem start_job (hc : checkB p = true) {a b : Nat} (hb : a ≤ b ∧ b ≤ t.length) : JobOk p t a (.pair p.start.toNat b) := by
  unfold checkB headB at hc
  simp only [Bool.and_eq_true, decide_eq_true_eq] at hc
  have := hc.1
  exact ⟨by omega, hb⟩
theorem fresh_ok (hc : checkB p = true) {b : Nat} (hb : b ≤ t.length) : Ok p t b (begin_ p b (List.replicate (p.insts.length * places t b) false) 0) :=
  Ok.start hc hb ⟨Nat.le_refl _, hb⟩ (by simp) (by simp)
theorem fresh_met {a b : Nat} {i k : Nat} (h : JobOk p t a (.pair i k)) : ¬ mP t a (begin_ p b (List.replicate (p.insts.length * places t a) false) 0) i k := by
  unfold mP begin_
  simp only []
  rw [rep_getD (bit_lt h)]
  simp
/-- A begin behind what failed finds what the run from that place alone finds. -/
theorem begin_same (hc : checkB p = true) {a b : Nat} (hb : a ≤ b ∧ b ≤ t.length) {met : List Bool} {steps : Nat} (hm : met.length = p.insts.length * places t a) (hs : steps + met.count false ≤ met.length)
    (hF : Fails p t fun i k => JobOk p t a (.pair i k) ∧ met.getD (bitOf t a i k) true = true) :
    (final p t a (begin_ p b met steps)).fin = (oneAt p t b).fin ∧ (final p t a (begin_ p b met steps)).caps = (oneAt p t b).caps := by
  have ho1 := fresh_ok hc hb.2
  have ho2 := Ok.start hc (Nat.le_trans hb.1 hb.2) hb hm hs
  have h := sim_final hF hc hb.1 _ _ _ (Nat.le_refl _) ho1 ho2 ⟨rfl, rfl, rfl, fun i k hj => by
    constructor
    · rintro (h | h)
      · exact absurd h (fresh_met hj)
      · exact h.2
    · intro h
      exact .inr ⟨jobOk_le hb.1 hj, h⟩⟩
  exact ⟨h.fin.symm, h.caps.symm⟩
theorem begin_shut (hc : checkB p = true) {a b : Nat} (hb : a ≤ b ∧ b ≤ t.length) {met : List Bool} {steps : Nat} (hm : met.length = p.insts.length * places t a) (hs : steps + met.count false ≤ met.length)
    (hF : Fails p t fun i k => JobOk p t a (.pair i k) ∧ met.getD (bitOf t a i k) true = true) (hf : (final p t a (begin_ p b met steps)).fin = none) :
    Fails p t fun i k => JobOk p t a (.pair i k) ∧ (final p t a (begin_ p b met steps)).met.getD (bitOf t a i k) true = true := by
  have ho2 := Ok.start hc (Nat.le_trans hb.1 hb.2) hb hm hs
  have h0 : Shut p t a (begin_ p b met steps) := fun i k x hj hmm hx _ => by
    obtain ⟨h5, hq⟩ := hF.next i k x ⟨hj, hmm⟩ hx
    exact ⟨h5, fun q hqm => .inl (hq q hqm).2⟩
  have h1 : Shut p t a (final p t a (begin_ p b met steps)) := h0.iter_ hc _ ho2
  exact shut_fails hc h1 hf ((final_halts _).resolve_left (fun h => h hf))
/-- What a search from place to place tells. -/
theorem search_tells (hc : checkB p = true) {a : Nat} : ∀ (n b : Nat) (met : List Bool) (steps : Nat), a ≤ b → b + n = t.length + 1 → met.length = p.insts.length * places t a → steps + met.count false ≤ met.length →
    Fails p t (fun i k => JobOk p t a (.pair i k) ∧ met.getD (bitOf t a i k) true = true) →
    ((search p t a false n b met steps).1 = none ∧ ∀ i, b ≤ i → i ≤ t.length → (oneAt p t i).fin = none) ∨
    (∃ j w, (search p t a false n b met steps).1 = some ((oneAt p t j).caps, w) ∧ (oneAt p t j).fin = some w ∧ b ≤ j ∧ j ≤ t.length ∧ ∀ i, b ≤ i → i < j → (oneAt p t i).fin = none)
  | 0, b, met, steps, _, h, _, _, _ => .inl ⟨rfl, fun i h1 h2 => by omega⟩
  | n + 1, b, met, steps, hab, hbn, hm, hs, hF => by
    have hb : a ≤ b ∧ b ≤ t.length := ⟨hab, by omega⟩
    have h1 := begin_same hc hb hm hs hF
    have ho := Ok.iter_ hc (meas (begin_ p b met steps)) (Ok.start hc (Nat.le_trans hb.1 hb.2) hb hm hs)
    cases hf : (final p t a (begin_ p b met steps)).fin with
    | some w =>
      refine .inr ⟨b, w, ?_, h1.1.symm.trans hf, Nat.le_refl _, hb.2, fun i h2 h3 => by omega⟩
      rw [search]
      simp only [hf]
      rw [h1.2]
    | none =>
      have hF2 := begin_shut hc hb hm hs hF hf
      have hone : (oneAt p t b).fin = none := h1.1.symm.trans hf
      have hrec : search p t a false (n + 1) b met steps = search p t a false n (b + 1) (final p t a (begin_ p b met steps)).met (final p t a (begin_ p b met steps)).steps := by
        rw [search]
        simp only [hf]
        rfl
      rw [hrec]
      rcases search_tells hc n (b + 1) _ _ (by omega) (by omega) ho.met ho.steps hF2 with ⟨h2, h3⟩ | ⟨j, w, h2, h3, h4, h5, h6⟩
      · refine .inl ⟨h2, fun i hi1 hi2 => ?_⟩
        by_cases e : i = b
        · subst e; exact hone
        · exact h3 i (by omega) hi2
      · refine .inr ⟨j, w, h2, h3, by omega, h5, fun i hi1 hi2 => ?_⟩
        by_cases e : i = b
        · subst e; exact hone
        · exact h6 i (by omega) hi2
theorem step_steps (a : Nat) (s : MS) : s.steps ≤ (mstep p t a s).steps := by
  unfold mstep
  split
  · exact Nat.le_refl _
  · exact Nat.le_refl _
  · exact Nat.le_refl _
  · split
    · exact Nat.le_refl _
    · split
      · exact Nat.le_refl _
      · rw [eff_eq]; exact Nat.le_succ _
theorem iter_steps (a : Nat) : ∀ (n : Nat) (s : MS), s.steps ≤ (iter p t a n s).steps
  | 0, s => Nat.le_refl _
  | n + 1, s => Nat.le_trans (step_steps a s) (iter_steps a n _)
theorem search_steps (a : Nat) (anch : Bool) : ∀ (n b : Nat) (met : List Bool) (steps : Nat), steps ≤ (search p t a anch n b met steps).2
  | 0, b, met, steps => Nat.le_refl _
  | n + 1, b, met, steps => by
    have h1 : steps ≤ (final p t a (begin_ p b met steps)).steps := iter_steps a _ (begin_ p b met steps)
    rw [search]
    split
    · exact h1
    · split
      · exact h1
      · exact Nat.le_trans h1 (search_steps a anch n (b + 1) _ _)
theorem search_most (hc : checkB p = true) {a : Nat} (anch : Bool) : ∀ (n b : Nat) (met : List Bool) (steps : Nat), a ≤ b → b + n = t.length + 1 → met.length = p.insts.length * places t a → steps + met.count false ≤ met.length →
    (search p t a anch n b met steps).2 ≤ p.insts.length * places t a
  | 0, b, met, steps, _, _, hm, hs => by rw [search]; simp only []; omega
  | n + 1, b, met, steps, hab, hbn, hm, hs => by
    have ho := Ok.iter_ hc (meas (begin_ p b met steps)) (Ok.start hc (by omega) ⟨hab, by omega⟩ hm hs)
    have h1 : (final p t a (begin_ p b met steps)).steps ≤ p.insts.length * places t a := by
      have e1 := ho.steps
      have e2 := ho.met
      unfold final
      omega
    rw [search]
    split
    · exact h1
    · split
      · exact h1
      · exact search_most hc anch n (b + 1) _ _ (by omega) (by omega) ho.met ho.steps
theorem begin_steps (hc : checkB p = true) {b : Nat} (hb : b ≤ t.length) : 1 ≤ (oneAt p t b).steps := by
  have hj := start_job (t := t) hc ⟨Nat.le_refl b, hb⟩
  obtain ⟨x, hx⟩ : ∃ x, p.insts[p.start.toNat]? = some x := ⟨_, List.getElem?_eq_getElem hj.1⟩
  have e := mstep_pair (p := p) (t := t) (at_ := b) (s := begin_ p b (List.replicate (p.insts.length * places t b) false) 0) rfl rfl (by unfold begin_; exact rep_getD (bit_lt hj)) hx
  rw [eff_eq] at e
  unfold oneAt
  rw [← final_iter 1]
  have h1 : (iter p t b 1 (begin_ p b (List.replicate (p.insts.length * places t b) false) 0)).steps = 1 := by
    show (mstep p t b _).steps = 1
    rw [e]
    rfl
  have := iter_steps (p := p) (t := t) b (meas (iter p t b 1 (begin_ p b (List.replicate (p.insts.length * places t b) false) 0))) (iter p t b 1 (begin_ p b (List.replicate (p.insts.length * places t b) false) 0))
  rw [h1] at this
  exact this
/-- The anchored run. -/
theorem search_one (a n : Nat) : search p t a true (n + 1) a (List.replicate (p.insts.length * places t a) false) 0 = ((oneAt p t a).fin.map fun w => ((oneAt p t a).caps, w), (oneAt p t a).steps) := by
  rw [search]
  show (match (oneAt p t a).fin with | some w => (some ((oneAt p t a).caps, w), (oneAt p t a).steps) | none => if true then (none, (oneAt p t a).steps) else _) = _
  cases (oneAt p t a).fin with
  | some w => rfl
  | none => rfl
theorem fresh_fails (hc : checkB p = true) (a : Nat) : Fails p t fun i k => JobOk p t a (.pair i k) ∧ (List.replicate (p.insts.length * places t a) false).getD (bitOf t a i k) true = true :=
  ⟨fun i k h => ⟨h.1.1, h.1.2.2⟩, fun i k x h _ => by have := rep_getD (bit_lt h.1); rw [this] at h; exact absurd h.2 (by simp)⟩
/-- The search of a run that is not anchored, of a text from a place on. -/
theorem run_tells (hc : checkB p = true) {a : Nat} (ha : a ≤ t.length) :
    let r := search p t a false (t.length + 1 - a) a (List.replicate (p.insts.length * places t a) false) 0
    (1 ≤ r.2 ∧ r.2 ≤ p.insts.length * places t a ∧ (oneAt p t a).steps ≤ r.2 ∧ 1 ≤ (oneAt p t a).steps) ∧
    ((r.1 = none ∧ ∀ i, a ≤ i → i ≤ t.length → (oneAt p t i).fin = none) ∨ (∃ j w, r.1 = some ((oneAt p t j).caps, w) ∧ (oneAt p t j).fin = some w ∧ a ≤ j ∧ j ≤ t.length ∧ ∀ i, a ≤ i → i < j → (oneAt p t i).fin = none)) := by
  intro r
  have hl : (List.replicate (p.insts.length * places t a) false).length = p.insts.length * places t a := by simp
  have hs : 0 + (List.replicate (p.insts.length * places t a) false).count false ≤ (List.replicate (p.insts.length * places t a) false).length := by simp
  have h1 := begin_steps (t := t) hc ha
  have h2 : (oneAt p t a).steps ≤ r.2 := by
    obtain ⟨n, hn⟩ : ∃ n, t.length + 1 - a = n + 1 := ⟨t.length - a, by omega⟩
    show _ ≤ (search p t a false (t.length + 1 - a) a (List.replicate (p.insts.length * places t a) false) 0).2
    rw [hn, search]
    show _ ≤ (match (oneAt p t a).fin with | some w => (some ((oneAt p t a).caps, w), (oneAt p t a).steps) | none => if false = true then (none, (oneAt p t a).steps) else search p t a false n (a + 1) (oneAt p t a).met (oneAt p t a).steps).2
    cases (oneAt p t a).fin with
    | some w => exact Nat.le_refl _
    | none => exact search_steps a false n (a + 1) _ _
  exact ⟨⟨Nat.le_trans h1 h2, search_most hc false _ a _ 0 (Nat.le_refl _) (by omega) hl hs, h2, h1⟩, search_tells hc _ a _ 0 (Nat.le_refl _) (by omega) hl hs (fresh_fails hc a)⟩
end
end Go.Proofs.Ytclbbfkgdhmheaa.Mach
/- A tree's program notes where it began, once. No program here. -/
namespace Go.Proofs.Ytclbbfkgdhmheaa.Tr
open Go.Proofs.Ytclbbfkgdhmheaa.Mach

/-- It goes on behind the first instruction; it notes no capture 0. -/
def Late (x : Ins) : Prop := (x.op = 6 ∨ x.op = 5 ∨ 1 ≤ x.x) ∧ (x.op = 2 → 1 ≤ x.y) ∧ (x.op = 3 → 1 ≤ x.arg)
theorem late_alt {z : Bool} {x y : Nat} (hx : 1 ≤ x) (hy : 1 ≤ y) : Late (altI z x y) := by
  unfold altI Late
  cases z <;> simp <;> omega
theorem codes_late (l : List Tr) (ih : ∀ s ∈ l, allB s = true → ∀ b, 1 ≤ b → ∀ x ∈ codeS s b, Late x) (h : ∀ s ∈ l, allB s = true) : ∀ b, 1 ≤ b → ∀ x ∈ codesS l b, Late x := by
  induction l with
  | nil => intro b _ x hx; cases hx
  | cons t l ihl =>
    intro b hb x hx
    rw [codesS] at hx
    rcases List.mem_append.1 hx with hx | hx
    · exact ih t List.mem_cons_self (h t List.mem_cons_self) b hb x hx
    · exact ihl (fun s hs => ih s (List.mem_cons_of_mem _ hs)) (fun s hs => h s (List.mem_cons_of_mem _ hs)) _ (by omega) x hx
theorem alts_late (l : List Tr) (ih : ∀ s ∈ l, allB s = true → ∀ b, 1 ≤ b → ∀ x ∈ codeS s b, Late x) (h : ∀ s ∈ l, allB s = true) : ∀ b e, 1 ≤ b → 1 ≤ e → ∀ x ∈ altS l b e, Late x := by
  induction l with
  | nil => intro b e _ _ x hx; cases hx
  | cons t l ihl =>
    intro b e hb he x hx
    rw [altS] at hx
    split at hx
    · exact ih t List.mem_cons_self (h t List.mem_cons_self) b hb x hx
    · rcases List.mem_cons.1 hx with rfl | hx
      · unfold Late; simp; omega
      rcases List.mem_append.1 hx with hx | hx
      · exact ih t List.mem_cons_self (h t List.mem_cons_self) _ (by omega) x hx
      rcases List.mem_cons.1 hx with rfl | hx
      · unfold Late; simp; omega
      · exact ihl (fun s hs => ih s (List.mem_cons_of_mem _ hs)) (fun s hs => h s (List.mem_cons_of_mem _ hs)) _ e (by omega) he x hx
theorem code_late : ∀ t : Tr, allB t = true → ∀ b, 1 ≤ b → ∀ x ∈ codeS t b, Late x := by
  intro t
  induction t using Tr.ind with
  | h t ih =>
    intro h b hb x hx
    cases kinds h with
    | empty =>
      rw [emptyT, codeS, if_neg (by decide), if_neg (by decide), if_neg (by decide), if_neg (by decide), if_neg (by decide)] at hx
      cases hx
    | cls r hr =>
      rw [codeS, if_pos rfl] at hx
      split at hx <;> (rw [List.mem_singleton] at hx; subst hx; unfold Late; simp <;> omega)
    | ass a ha =>
      rw [codeS, if_neg (by decide), if_pos rfl, List.mem_singleton] at hx
      subst hx; unfold Late; simp; omega
    | cat l h2 hs =>
      rw [catT, codeS, if_neg (by decide), if_neg (by decide), if_neg (by decide), if_neg (by decide), if_neg (by decide)] at hx
      exact codes_late l ih hs b hb x hx
    | alt l h2 hs =>
      rw [altT, codeS, if_neg (by decide), if_neg (by decide), if_neg (by decide), if_pos rfl] at hx
      exact alts_late l ih hs b _ hb (by omega) x hx
    | rep y n m z hy h0 h1 hm =>
      have hl : ∀ s ∈ [y], allB s = true := by intro s hs; rw [List.mem_singleton] at hs; rw [hs]; exact hy
      rw [repT, codeS, if_neg (by decide), if_neg (by decide), if_neg (by decide), if_neg (by decide), if_pos rfl] at hx
      split at hx
      · rcases List.mem_append.1 hx with hx | hx
        · exact codes_late [y] ih hl b hb x hx
        · rw [List.mem_singleton] at hx; subst hx; exact late_alt hb (by omega)
      · split at hx
        · rcases List.mem_cons.1 hx with rfl | hx
          · exact late_alt (by omega) (by omega)
          rcases List.mem_append.1 hx with hx | hx
          · exact codes_late [y] ih hl _ (by omega) x hx
          · rw [List.mem_singleton] at hx; subst hx; unfold Late; simp; omega
        · rcases List.mem_cons.1 hx with rfl | hx
          · exact late_alt (by omega) (by omega)
          · exact codes_late [y] ih hl _ (by omega) x hx
    | group y i s hy h0 h1 hm =>
      have hl : ∀ s ∈ [y], allB s = true := by intro s hs; rw [List.mem_singleton] at hs; rw [hs]; exact hy
      rw [groupT, codeS, if_neg (by decide), if_neg (by decide), if_pos rfl] at hx
      rcases List.mem_cons.1 hx with rfl | hx
      · unfold Late; simp; omega
      rcases List.mem_append.1 hx with hx | hx
      · exact codes_late [y] ih hl _ (by omega) x hx
      · rw [List.mem_singleton] at hx; subst hx; unfold Late; simp; omega
theorem prog_late {s : Tr} (h : allB s = true) {i : Nat} (hi : i ≠ 0) {x : Ins} (hx : (progL s)[i]? = some x) : Late x := by
  unfold progL at hx
  obtain ⟨j, rfl⟩ : ∃ j, i = j + 1 := ⟨i - 1, by omega⟩
  rw [List.getElem?_cons_succ] at hx
  rcases List.mem_append.1 (List.mem_of_getElem? hx) with hm | hm
  · exact code_late s h 1 (Nat.le_refl _) x hm
  · rcases List.mem_cons.1 hm with rfl | hm
    · unfold Late; simp; omega
    · rw [List.mem_singleton] at hm; subst hm; unfold Late; simp
end Go.Proofs.Ytclbbfkgdhmheaa.Tr
namespace Go.Proofs.Ytclbbfkgdhmheaa.Mach
open Go.Proofs.Ytclbbfkgdhmheaa.Tr
section
variable {s0 : Tr.Tr} {c : Int} {t : List Int} {b : Nat}
/-- From the first step on: capture 0 stands, what undoes it is the last thing to be done. -/
def Zero (b : Nat) (s : MS) : Prop := (s.todo = [] ∧ s.fin = none) ∨ ∃ js old, s.todo = js ++ [.back 0 old] ∧ (∀ j ∈ js, (∀ o, j ≠ .back 0 o) ∧ ∀ k, j ≠ .pair 0 k) ∧ s.caps[0]? = some (b : Int)
theorem nexts_late {x : Ins} (h : Late x) {k : Nat} {q : Nat × Nat} (hq : q ∈ nexts t x k) : q.1 ≠ 0 := by
  unfold nexts at hq
  obtain ⟨h1, h2, h3⟩ := h
  repeat' split at hq
  all_goals simp at hq
  all_goals first | (subst hq; simp only []; omega) | (rcases hq with rfl | rfl <;> (simp only []; omega))
theorem Zero.step (h0 : allB s0 = true) {a : Nat} {s : MS} (h : Zero b s) : Zero b (mstep ⟨progL s0, 0, c⟩ t a s) := by
  by_cases hh : halted s
  · rw [halt_stay _ t a hh]; exact h
  unfold halted at hh
  simp only [not_or, ne_eq, Classical.not_not] at hh
  obtain ⟨hf, ht⟩ := hh
  rcases h with h | ⟨js, old, h1, h2, h3⟩
  · exact absurd h.1 ht
  match js, h1, h2 with
  | [], h1, _ =>
    rw [mstep_back hf h1]
    exact .inl ⟨rfl, hf⟩
  | .back c' o :: js, h1, h2 =>
    rw [mstep_back hf h1]
    have hc : c' ≠ 0 := fun e => (h2 _ List.mem_cons_self).1 o (by rw [e])
    exact .inr ⟨js, old, rfl, fun j hj => h2 j (List.mem_cons_of_mem _ hj), by simp only []; rw [List.getElem?_set_ne hc]; exact h3⟩
  | .pair i k :: js, h1, h2 =>
    have hi : i ≠ 0 := fun e => (h2 _ List.mem_cons_self).2 k (by rw [e])
    cases hq : s.met.getD (bitOf t a i k) true with
    | true =>
      rw [mstep_met hf h1 hq]
      exact .inr ⟨js, old, rfl, fun j hj => h2 j (List.mem_cons_of_mem _ hj), h3⟩
    | false =>
      cases hx : (progL s0)[i]? with
      | none =>
        have e : mstep ⟨progL s0, 0, c⟩ t a s = { s with todo := js ++ [.back 0 old] } := by
          unfold mstep; rw [hf, h1]; simp only [List.cons_append, hq, hx, Bool.false_eq_true, if_false]
        rw [e]
        exact .inr ⟨js, old, rfl, fun j hj => h2 j (List.mem_cons_of_mem _ hj), h3⟩
      | some x =>
        have hl := prog_late h0 hi hx
        have e := mstep_pair (p := ⟨progL s0, 0, c⟩) (t := t) (at_ := a) hf h1 hq hx
        rw [eff_eq] at e
        simp only [] at e
        rw [e]
        refine .inr ⟨jobs (nexts t x k) ++ (under x s.caps ++ js), old, by simp [List.append_assoc], fun j hj => ?_, ?_⟩
        · rcases List.mem_append.1 hj with hj | hj
          · obtain ⟨q, hqm, rfl⟩ := List.mem_map.1 hj
            refine ⟨fun o => by simp, fun k' e => ?_⟩
            simp only [Job.pair.injEq] at e
            exact nexts_late hl hqm e.1
          rcases List.mem_append.1 hj with hj | hj
          · unfold under at hj
            split at hj
            · rename_i h3'
              rw [List.mem_singleton] at hj
              subst hj
              refine ⟨fun o e => ?_, fun k' => by simp⟩
              simp only [Job.back.injEq] at e
              have := hl.2.2 h3'
              omega
            · cases hj
          · exact h2 j (List.mem_cons_of_mem _ hj)
        · simp only []
          unfold capsAt
          split
          · rename_i h3'
            have := hl.2.2 h3'
            rw [List.getElem?_set_ne (by omega)]
            exact h3
          · exact h3
theorem Zero.iter_ (h0 : allB s0 = true) {a : Nat} : ∀ (n : Nat) {s : MS}, Zero b s → Zero b (iter ⟨progL s0, 0, c⟩ t a n s)
  | 0, _, h => h
  | n + 1, _, h => Zero.iter_ h0 n (h.step h0)
/-- What a tree's program finds began where its capture 0 says. -/
theorem cap0_is (h0 : allB s0 = true) (hc : checkB ⟨progL s0, 0, c⟩ = true) (hb : b ≤ t.length) {w : Int} (hf : (oneAt ⟨progL s0, 0, c⟩ t b).fin = some w) : (oneAt ⟨progL s0, 0, c⟩ t b).caps[0]? = some (b : Int) := by
  have hj := start_job (t := t) hc ⟨Nat.le_refl b, hb⟩
  have hcp : 0 < c.toNat := by
    unfold checkB headB at hc
    simp only [Bool.and_eq_true, decide_eq_true_eq] at hc
    omega
  have e := mstep_pair (p := ⟨progL s0, 0, c⟩) (t := t) (at_ := b) (s := begin_ ⟨progL s0, 0, c⟩ b (List.replicate ((progL s0).length * places t b) false) 0) rfl rfl (by unfold begin_; exact rep_getD (bit_lt hj)) (show (progL s0)[(0 : Int).toNat]? = some ⟨3, (1 : Nat), 0, 0, []⟩ from rfl)
  rw [eff_eq] at e
  have hz : Zero b (mstep ⟨progL s0, 0, c⟩ t b (begin_ ⟨progL s0, 0, c⟩ b (List.replicate ((progL s0).length * places t b) false) 0)) := by
    rw [e]
    refine .inr ⟨[.pair 1 b], _, rfl, by simp, ?_⟩
    show ((begin_ ⟨progL s0, 0, c⟩ b (List.replicate ((progL s0).length * places t b) false) 0).caps.set 0 (b : Int))[0]? = some (b : Int)
    unfold begin_
    simp only []
    rw [List.getElem?_set_self (by simpa using hcp)]
  have hz2 := hz.iter_ (c := c) (t := t) h0 (a := b) (meas (iter ⟨progL s0, 0, c⟩ t b 1 (begin_ ⟨progL s0, 0, c⟩ b (List.replicate ((progL s0).length * places t b) false) 0)))
  have hfi : oneAt ⟨progL s0, 0, c⟩ t b = final ⟨progL s0, 0, c⟩ t b (iter ⟨progL s0, 0, c⟩ t b 1 (begin_ ⟨progL s0, 0, c⟩ b (List.replicate ((progL s0).length * places t b) false) 0)) := (final_iter 1 _).symm
  have hz3 : Zero b (oneAt ⟨progL s0, 0, c⟩ t b) := by rw [hfi]; exact hz2
  rcases hz3 with h | ⟨_, _, _, _, h⟩
  · rw [hf] at h; cases h.2
  · exact h
end
end Go.Proofs.Ytclbbfkgdhmheaa.Mach
/- What BitstateSteps asks of the machine. No program here. -/
namespace Go.Proofs.Ytclbbfkgdhmheaa.Mach
section
variable {p : Prg} {t : List Int} {a : Int}
/-- What a run anchored at a place finds. -/
def oneR (p : Prg) (t : List Int) (i : Nat) : Option (List Int × Int) := (oneAt p t i).fin.map fun w => ((oneAt p t i).caps, w)
theorem runR_ok {anch : Bool} (h : (runR p t a anch).1 = 0) : t.length ≤ 4194304 ∧ checkB p = true ∧ 0 ≤ a ∧ a ≤ t.length ∧ p.insts.length * (t.length - a.toNat + 1) ≤ 16777216 ∧
    runR p t a anch = (0, search p t a.toNat anch (t.length + 1 - a.toNat) a.toNat (List.replicate (p.insts.length * places t a.toNat) false) 0) := by
  unfold runR at h ⊢
  by_cases h1 : 4194304 < t.length
  · rw [if_pos h1] at h; cases h
  rw [if_neg h1] at h ⊢
  by_cases h2 : checkB p = false
  · rw [if_pos h2] at h; cases h
  rw [if_neg h2] at h ⊢
  by_cases h3 : a < 0 ∨ (t.length : Int) < a
  · rw [if_pos h3] at h; cases h
  rw [if_neg h3] at h ⊢
  by_cases h4 : 16777216 < p.insts.length * (t.length - a.toNat + 1)
  · rw [if_pos h4] at h; cases h
  rw [if_neg h4]
  exact ⟨by omega, by simpa using h2, by omega, by omega, by omega, rfl⟩
theorem runR_at (h1 : t.length ≤ 4194304) (hc : checkB p = true) {b : Nat} (h4 : p.insts.length * (t.length - b + 1) ≤ 16777216) {i : Nat} (hi : b ≤ i ∧ i ≤ t.length) : runR p t (i : Int) true = (0, oneR p t i, (oneAt p t i).steps) := by
  have hle : p.insts.length * (t.length - i + 1) ≤ p.insts.length * (t.length - b + 1) := Nat.mul_le_mul_left _ (by omega)
  unfold runR
  rw [if_neg (by omega), if_neg (by rw [hc]; simp), if_neg (by omega), Int.toNat_natCast, if_neg (by omega)]
  obtain ⟨n, hn⟩ : ∃ n, t.length + 1 - i = n + 1 := ⟨t.length - i, by omega⟩
  rw [hn, search_one]
  rfl
/-- All that the law asks. -/
structure Told (p : Prg) (t : List Int) (a : Int) : Prop where
  len : t.length ≤ 4194304
  chk : checkB p = true
  a0 : 0 ≤ a
  a1 : a ≤ t.length
  one : ∀ i : Nat, a.toNat ≤ i → i ≤ t.length → runR p t (i : Int) true = (0, oneR p t i, (oneAt p t i).steps)
  s0 : 1 ≤ (runR p t a false).2.2
  s1 : 1 ≤ (runR p t a true).2.2
  s2 : (runR p t a false).2.2 ≤ p.insts.length * (t.length - a.toNat + 1)
  s3 : (runR p t a true).2.2 ≤ (runR p t a false).2.2
  room : p.insts.length * (t.length - a.toNat + 1) ≤ 16777216
  tells : ((runR p t a false).2.1 = none ∧ ∀ i, a.toNat ≤ i → i ≤ t.length → oneR p t i = none) ∨ (∃ j, (runR p t a false).2.1 = oneR p t j ∧ (oneR p t j).isSome = true ∧ a.toNat ≤ j ∧ j ≤ t.length ∧ ∀ i, a.toNat ≤ i → i < j → oneR p t i = none)
theorem told (h : (runR p t a false).1 = 0) : Told p t a := by
  obtain ⟨h1, hc, h2, h3, h4, he⟩ := runR_ok h
  obtain ⟨⟨s0, s2, s3, s1⟩, ht⟩ := run_tells (t := t) hc (a := a.toNat) (by omega)
  have hone := fun (i : Nat) (hi1 : a.toNat ≤ i) (hi2 : i ≤ t.length) => runR_at h1 hc h4 ⟨hi1, hi2⟩
  have h0 := hone a.toNat (Nat.le_refl _) (by omega)
  rw [Int.toNat_of_nonneg h2] at h0
  refine ⟨h1, hc, h2, h3, hone, by rw [he]; exact s0, by rw [h0]; exact s1, by rw [he]; exact s2, by rw [h0, he]; exact s3, h4, ?_⟩
  rw [he]
  rcases ht with ⟨e1, e2⟩ | ⟨j, w, e1, e2, e3, e4, e5⟩
  · exact .inl ⟨e1, fun i hi1 hi2 => by unfold oneR; rw [e2 i hi1 hi2]; rfl⟩
  · refine .inr ⟨j, ?_, by unfold oneR; rw [e2]; rfl, e3, e4, fun i hi1 hi2 => by unfold oneR; rw [e5 i hi1 hi2]; rfl⟩
    show _ = oneR p t j
    unfold oneR
    rw [e2]
    exact e1
theorem Told.both (h : Told p t a) (hs : (runR p t a true).2.1.isSome = true) : (runR p t a false).2.1.isSome = true := by
  have h0 := h.one a.toNat (Nat.le_refl _) (by have := h.a1; have := h.a0; omega)
  rw [Int.toNat_of_nonneg h.a0] at h0
  rw [h0] at hs
  rcases h.tells with ⟨e1, e2⟩ | ⟨j, e1, e2, -⟩
  · have := e2 a.toNat (Nat.le_refl _) (by have := h.a1; have := h.a0; omega)
    simp only [] at hs
    rw [this] at hs; cases hs
  · rw [e1]; exact e2
theorem Told.same (h : Told p t a) : (runR p t a true).1 = 0 := by
  have h0 := h.one a.toNat (Nat.le_refl _) (by have := h.a1; have := h.a0; omega)
  rw [Int.toNat_of_nonneg h.a0] at h0
  rw [h0]
/-- A tree's program: capture 0 of what is found is where it began. -/
theorem cap0_one {s0 : Tr.Tr} {c : Int} (h0 : Tr.allB s0 = true) (hc : checkB ⟨Tr.progL s0, 0, c⟩ = true) {j : Nat} (hj : j ≤ t.length) {r : List Int × Int} (hr : oneR ⟨Tr.progL s0, 0, c⟩ t j = some r) : r.1[0]? = some (j : Int) := by
  unfold oneR at hr
  cases hf : (oneAt ⟨Tr.progL s0, 0, c⟩ t j).fin with
  | none => rw [hf] at hr; cases hr
  | some w =>
    rw [hf] at hr
    simp only [Option.map_some, Option.some.injEq] at hr
    rw [← hr]
    exact cap0_is h0 hc hj hf
end
end Go.Proofs.Ytclbbfkgdhmheaa.Mach
