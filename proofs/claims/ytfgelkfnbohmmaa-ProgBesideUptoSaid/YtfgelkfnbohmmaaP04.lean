/- The machine of chapter 12: what stays true in its steps. No program here. -/
import Derived.Test.YtfgelkfnbohmmaaP02
namespace Go.Proofs.Ytfgelkfnbohmmaa.Mach
section
variable (p : Prg) (t : List Int) (at_ : Nat)
def JobOk : Job → Prop
  | .pair i k => i < p.insts.length ∧ at_ ≤ k ∧ k ≤ t.length
  | .back c _ => c < p.caps.toNat
structure Ok (s : MS) : Prop where
  met : s.met.length = p.insts.length * places t at_
  caps : s.caps.length = p.caps.toNat
  jobs : ∀ j ∈ s.todo, JobOk p t at_ j
  room : 3 * unmet s + s.todo.length ≤ 3 * s.met.length + 2
  steps : s.steps + unmet s ≤ s.met.length
variable {p t at_}
theorem bit_lt {i k : Nat} (h : JobOk p t at_ (.pair i k)) : bitOf t at_ i k < p.insts.length * places t at_ := by
  obtain ⟨h1, h2, h3⟩ := h
  unfold bitOf places
  have : (i + 1) * (t.length - at_ + 1) ≤ p.insts.length * (t.length - at_ + 1) := Nat.mul_le_mul_right _ h1
  rw [Nat.succ_mul] at this
  omega
theorem may_of (hc : checkB p = true) {i : Nat} {x : Ins} (hx : p.insts[i]? = some x) : mayB x p.insts.length p.caps = true := by
  unfold checkB at hc
  rw [Bool.and_eq_true, List.all_eq_true] at hc
  exact hc.2 x (List.mem_of_getElem? hx)
theorem toNat_lt {x : Int} {n : Nat} (h0 : 0 ≤ x) (h : x < n) : x.toNat < n := by omega
theorem may_x {x : Ins} {n : Nat} {caps : Int} (h : mayB x n caps = true) (ho : x.op = 1 ∨ x.op = 2 ∨ x.op = 3 ∨ x.op = 4 ∨ x.op = 7) : 0 ≤ x.x ∧ x.x < n := by
  unfold mayB at h
  rcases ho with e | e | e | e | e <;> simp [e] at h <;> omega
theorem may_y {x : Ins} {n : Nat} {caps : Int} (h : mayB x n caps = true) (ho : x.op = 2) : 0 ≤ x.y ∧ x.y < n := by
  unfold mayB at h
  simp [ho] at h; omega
theorem may_arg {x : Ins} {n : Nat} {caps : Int} (h : mayB x n caps = true) (ho : x.op = 3) : 0 ≤ x.arg ∧ x.arg < caps := by
  unfold mayB at h
  simp [ho] at h; omega
theorem may_as {x : Ins} {n : Nat} {caps : Int} (h : mayB x n caps = true) (ho : x.op = 4) : ∃ j, j < 6 ∧ x.arg = ((2 ^ j : Nat) : Int) := by
  unfold mayB at h
  simp [ho, isAs] at h
  obtain ⟨_, h⟩ := h
  rcases h with ((((h | h) | h) | h) | h) | h
  · exact ⟨0, by omega, h⟩
  · exact ⟨1, by omega, h⟩
  · exact ⟨2, by omega, h⟩
  · exact ⟨3, by omega, h⟩
  · exact ⟨4, by omega, h⟩
  · exact ⟨5, by omega, h⟩
theorem may_rng {x : Ins} {n : Nat} {caps : Int} (h : mayB x n caps = true) (ho : x.op = 1) : rightB x.rng = true := by
  unfold mayB at h
  simp [ho] at h; exact h.2
theorem mstep_back {s : MS} {c : Nat} {old : Int} {r : List Job} (hf : s.fin = none) (ht : s.todo = .back c old :: r) : mstep p t at_ s = { s with todo := r, caps := s.caps.set c old } := by
  unfold mstep; rw [hf, ht]
theorem mstep_met {s : MS} {i k : Nat} {r : List Job} (hf : s.fin = none) (ht : s.todo = .pair i k :: r) (hm : s.met.getD (bitOf t at_ i k) true = true) : mstep p t at_ s = { s with todo := r } := by
  unfold mstep; rw [hf, ht]; simp only [hm, if_true]
theorem mstep_pair {s : MS} {i k : Nat} {r : List Job} {x : Ins} (hf : s.fin = none) (ht : s.todo = .pair i k :: r) (hm : s.met.getD (bitOf t at_ i k) true = false) (hx : p.insts[i]? = some x) :
    mstep p t at_ s = eff t x k { s with todo := r, met := s.met.set (bitOf t at_ i k) true, steps := s.steps + 1 } := by
  unfold mstep; rw [hf, ht]; simp only [hm, hx, Bool.false_eq_true, if_false]
theorem Ok.eff_ {x : Ins} {k : Nat} {s : MS} (hx : mayB x p.insts.length p.caps = true) (hk : at_ ≤ k ∧ k ≤ t.length)
    (met : s.met.length = p.insts.length * places t at_) (caps : s.caps.length = p.caps.toNat) (jobs : ∀ j ∈ s.todo, JobOk p t at_ j)
    (room : 3 * unmet s + s.todo.length ≤ 3 * s.met.length) (steps : s.steps + unmet s ≤ s.met.length) : Ok p t at_ (eff t x k s) := by
  have hp : ∀ {y : Int} {m : Nat}, 0 ≤ y → y < p.insts.length → at_ ≤ m → m ≤ t.length → JobOk p t at_ (.pair y.toNat m) := fun a b c d => ⟨by omega, c, d⟩
  have jx : (x.op = 1 ∨ x.op = 2 ∨ x.op = 3 ∨ x.op = 4 ∨ x.op = 7) → ∀ m, at_ ≤ m → m ≤ t.length → JobOk p t at_ (.pair x.x.toNat m) := fun ho m a b => hp (may_x hx ho).1 (may_x hx ho).2 a b
  unfold eff
  repeat' split
  all_goals
    refine ⟨met, ?_, ?_, ?_, steps⟩
  all_goals first
    | exact caps
    | exact jobs
    | (simp only [unmet, List.length_cons] at *; omega)
    | (simp only [List.length_set]; exact caps)
    | skip
  all_goals intro j hj; simp only [List.mem_cons] at hj
  · rename_i ho hc
    rcases hj with rfl | hj
    · exact jx (.inl ho) _ (by omega) (by omega)
    · exact jobs j hj
  · rename_i _ ho
    rcases hj with rfl | rfl | hj
    · exact jx (.inr (.inl ho)) _ hk.1 hk.2
    · exact hp (may_y hx ho).1 (may_y hx ho).2 hk.1 hk.2
    · exact jobs j hj
  · rename_i _ _ ho
    rcases hj with rfl | rfl | hj
    · exact jx (.inr (.inr (.inl ho))) _ hk.1 hk.2
    · have := may_arg hx ho
      show x.arg.toNat < p.caps.toNat
      omega
    · exact jobs j hj
  · rename_i _ _ _ ho _
    rcases hj with rfl | hj
    · exact jx (.inr (.inr (.inr (.inl ho)))) _ hk.1 hk.2
    · exact jobs j hj
  · rename_i _ _ _ _ _ ho
    rcases hj with rfl | hj
    · exact jx (.inr (.inr (.inr (.inr ho)))) _ hk.1 hk.2
    · exact jobs j hj
/-- What is true stays so. -/
theorem Ok.step {s : MS} (hc : checkB p = true) (h : Ok p t at_ s) : Ok p t at_ (mstep p t at_ s) := by
  obtain ⟨todo, met, caps, steps, fin⟩ := s
  obtain ⟨hm, hcp, hj, hr, hs⟩ := h
  simp only [] at hm hcp hj hr hs
  cases fin with
  | some v => exact ⟨hm, hcp, hj, hr, hs⟩
  | none =>
    match todo with
    | [] => exact ⟨hm, hcp, hj, hr, hs⟩
    | .back c old :: r =>
      rw [mstep_back rfl rfl]
      exact ⟨hm, by simpa using hcp, fun j h => hj j (List.mem_cons_of_mem _ h), by simp only [unmet, List.length_cons] at *; omega, hs⟩
    | .pair i k :: r =>
      have hjk := hj _ List.mem_cons_self
      by_cases hq : met.getD (bitOf t at_ i k) true = true
      · rw [mstep_met rfl rfl hq]
        exact ⟨hm, hcp, fun j h => hj j (List.mem_cons_of_mem _ h), by simp only [unmet, List.length_cons] at *; omega, hs⟩
      · rw [Bool.not_eq_true] at hq
        obtain ⟨x, hx⟩ : ∃ x, p.insts[i]? = some x := ⟨_, List.getElem?_eq_getElem hjk.1⟩
        rw [mstep_pair rfl rfl hq hx]
        have hcount := count_set hq
        refine Ok.eff_ (may_of hc hx) hjk.2 (by simpa using hm) hcp (fun j h => hj j (List.mem_cons_of_mem _ h)) ?_ ?_
        · simp only [unmet, List.length_cons, List.length_set] at *; omega
        · simp only [unmet, List.length_set] at *; omega
/-- At a begin. -/
theorem Ok.start (hc : checkB p = true) (hat : at_ ≤ t.length) {b : Nat} (hb : at_ ≤ b ∧ b ≤ t.length) {met : List Bool} {steps : Nat} (hm : met.length = p.insts.length * places t at_) (hs : steps + met.count false ≤ met.length) :
    Ok p t at_ (begin_ p b met steps) := by
  unfold checkB headB at hc
  simp only [Bool.and_eq_true, decide_eq_true_eq] at hc
  have := hc.1
  have hcle : met.count false ≤ met.length := List.count_le_length
  refine ⟨hm, by simp [begin_], ?_, ?_, hs⟩
  · intro j hj
    simp only [begin_, List.mem_singleton] at hj
    subst hj
    exact ⟨by omega, hb⟩
  · simp only [begin_, unmet, List.length_cons, List.length_nil]; omega
end
end Go.Proofs.Ytfgelkfnbohmmaa.Mach
namespace Go.Proofs.Ytfgelkfnbohmmaa.Mach
section
variable (p : Prg) (t : List Int)
/-- Where an instruction at a place goes on. -/
def nexts (x : Ins) (k : Nat) : List (Nat × Nat) :=
  if x.op = 1 then (if k < t.length ∧ memB x.rng (t.getD k 0) = true then [(x.x.toNat, k + 1)] else [])
  else if x.op = 2 then [(x.x.toNat, k), (x.y.toNat, k)]
  else if x.op = 3 then [(x.x.toNat, k)]
  else if x.op = 4 then (if asB t k x.arg then [(x.x.toNat, k)] else [])
  else if x.op = 7 then [(x.x.toNat, k)]
  else []
def jobs (l : List (Nat × Nat)) : List Job := l.map fun q => .pair q.1 q.2
def under (x : Ins) (caps : List Int) : List Job := if x.op = 3 then [.back x.arg.toNat (caps.getD x.arg.toNat 0)] else []
def capsAt (x : Ins) (k : Nat) (caps : List Int) : List Int := if x.op = 3 then caps.set x.arg.toNat k else caps
theorem eff_eq (x : Ins) (k : Nat) (s : MS) : eff t x k s = ⟨jobs (nexts t x k) ++ (under x s.caps ++ s.todo), s.met, capsAt x k s.caps, s.steps, if x.op = 5 then some x.arg else s.fin⟩ := by
  unfold eff nexts under capsAt jobs
  by_cases h1 : x.op = 1
  · simp only [h1, if_true]
    split <;> simp
  rw [if_neg h1, if_neg h1]
  by_cases h2 : x.op = 2
  · simp [h2]
  rw [if_neg h2, if_neg h2]
  by_cases h3 : x.op = 3
  · simp [h3]
  rw [if_neg h3, if_neg h3, if_neg h3, if_neg h3]
  by_cases h4 : x.op = 4
  · simp only [h4, if_true]
    split <;> simp
  rw [if_neg h4, if_neg h4]
  by_cases h5 : x.op = 5
  · simp [h5]
  rw [if_neg h5, if_neg h5]
  by_cases h7 : x.op = 7
  · simp [h7]
  rw [if_neg h7, if_neg h7]
  simp
variable (at_ : Nat)
/-- Was a pair met? -/
def mP (s : MS) (i k : Nat) : Prop := s.met.getD (bitOf t at_ i k) true = true
variable {p t at_}
theorem bit_inj {i k i' k' : Nat} (h : JobOk p t at_ (.pair i k)) (h' : JobOk p t at_ (.pair i' k')) (e : bitOf t at_ i k = bitOf t at_ i' k') : i = i' ∧ k = k' := by
  obtain ⟨-, h2, h3⟩ := h
  obtain ⟨-, h2', h3'⟩ := h'
  unfold bitOf places at e
  have hp : 0 < t.length - at_ + 1 := by omega
  have a1 : (i * (t.length - at_ + 1) + (k - at_)) / (t.length - at_ + 1) = i := by
    rw [Nat.add_comm, Nat.add_mul_div_right _ _ hp, Nat.div_eq_of_lt (by omega), Nat.zero_add]
  have a2 : (i' * (t.length - at_ + 1) + (k' - at_)) / (t.length - at_ + 1) = i' := by
    rw [Nat.add_comm, Nat.add_mul_div_right _ _ hp, Nat.div_eq_of_lt (by omega), Nat.zero_add]
  rw [e, a2] at a1
  subst a1
  exact ⟨rfl, by omega⟩
theorem mP_set {met : List Bool} {r : List Job} {c : List Int} {n : Nat} {f : Option Int} {s : MS} (hm : s.met = met) (hl : met.length = p.insts.length * places t at_) {i k i' k' : Nat} (h : JobOk p t at_ (.pair i k)) (h' : JobOk p t at_ (.pair i' k')) :
    mP t at_ ⟨r, met.set (bitOf t at_ i k) true, c, n, f⟩ i' k' ↔ mP t at_ s i' k' ∨ (i' = i ∧ k' = k) := by
  unfold mP
  subst hm
  simp only []
  have hb := bit_lt h
  by_cases e : bitOf t at_ i k = bitOf t at_ i' k'
  · have hh := bit_inj h h' e
    rw [← e, List.getD_eq_getElem?_getD, List.getElem?_set_self (by omega)]
    exact ⟨fun _ => .inr ⟨hh.1.symm, hh.2.symm⟩, fun _ => rfl⟩
  · rw [List.getD_eq_getElem?_getD, List.getElem?_set_ne e, ← List.getD_eq_getElem?_getD]
    refine ⟨.inl, fun hh => hh.elim id fun hh => ?_⟩
    exact absurd (by rw [hh.1, hh.2]) e
theorem iter_add : ∀ (a b : Nat) (s : MS), iter p t at_ (a + b) s = iter p t at_ b (iter p t at_ a s)
  | 0, b, s => by rw [Nat.zero_add]; rfl
  | a + 1, b, s => by rw [Nat.succ_add, iter, iter_add a b]; rfl
theorem Ok.iter_ (hc : checkB p = true) : ∀ (n : Nat) {s : MS}, Ok p t at_ s → Ok p t at_ (iter p t at_ n s)
  | 0, _, h => h
  | n + 1, _, h => Ok.iter_ hc n (h.step hc)
theorem final_iter (n : Nat) (s : MS) : final p t at_ (iter p t at_ n s) = final p t at_ s := by
  have h := iter_halts p t at_ (iter p t at_ n s) _ (Nat.le_refl _)
  rw [← iter_add] at h
  have := final_of p t at_ h
  rw [iter_add] at this
  exact this
theorem final_halted {s : MS} (h : halted s) : final p t at_ s = s := halt_iter p t at_ h _
theorem set_back (caps : List Int) (a : Nat) (k : Int) : (caps.set a k).set a (caps.getD a 0) = caps := by
  rw [List.set_set]
  by_cases h : a < caps.length
  · rw [List.getD_eq_getElem?_getD, List.getElem?_eq_getElem h, Option.getD_some, List.set_getElem_self]
  · rw [List.set_eq_of_length_le (by omega)]
/-- Of each pair that was met, what comes next is met or to be done. -/
def Shut (p : Prg) (t : List Int) (at_ : Nat) (s : MS) : Prop := ∀ i k x, JobOk p t at_ (.pair i k) → mP t at_ s i k → p.insts[i]? = some x → s.fin = none → x.op ≠ 5 ∧ ∀ q ∈ nexts t x k, mP t at_ s q.1 q.2 ∨ .pair q.1 q.2 ∈ s.todo
theorem Shut.step {s : MS} (hc : checkB p = true) (ho : Ok p t at_ s) (h : Shut p t at_ s) : Shut p t at_ (mstep p t at_ s) := by
  by_cases hh : halted s
  · rw [halt_stay p t at_ hh]; exact h
  unfold halted at hh
  simp only [not_or, ne_eq, Classical.not_not] at hh
  obtain ⟨hf, ht⟩ := hh
  match hd : s.todo, ht with
  | .back c old :: r, _ =>
    rw [mstep_back hf hd]
    intro i k x hj hm hx hfn
    obtain ⟨h5, hq⟩ := h i k x hj hm hx hf
    refine ⟨h5, fun q hqm => (hq q hqm).imp id fun hm => ?_⟩
    rw [hd] at hm
    exact (List.mem_cons.1 hm).resolve_left (by simp)
  | .pair i0 k0 :: r, _ =>
    have hj0 := ho.jobs (.pair i0 k0) (by rw [hd]; exact List.mem_cons_self)
    cases hq0 : s.met.getD (bitOf t at_ i0 k0) true with
    | true =>
      rw [mstep_met hf hd hq0]
      intro i k x hj hm hx hfn
      obtain ⟨h5, hq⟩ := h i k x hj hm hx hf
      refine ⟨h5, fun q hqm => (hq q hqm).elim .inl fun hm => ?_⟩
      rw [hd] at hm
      rcases List.mem_cons.1 hm with e | hm
      · simp only [Job.pair.injEq] at e
        rw [e.1, e.2]
        exact .inl hq0
      · exact .inr hm
    | false =>
      obtain ⟨x0, hx0⟩ : ∃ x, p.insts[i0]? = some x := ⟨_, List.getElem?_eq_getElem hj0.1⟩
      have e0 := mstep_pair (p := p) (t := t) (at_ := at_) hf hd hq0 hx0
      rw [eff_eq] at e0
      simp only [] at e0
      rw [e0]
      intro i k x hj hm hx hfn
      simp only [] at hfn
      have h5 : x0.op ≠ 5 := fun e => by rw [if_pos e] at hfn; cases hfn
      rcases (mP_set (s := s) rfl ho.met hj0 hj).1 hm with hm | ⟨rfl, rfl⟩
      · obtain ⟨h5', hq⟩ := h i k x hj hm hx hf
        refine ⟨h5', fun q hqm => ?_⟩
        have hle : JobOk p t at_ (.pair q.1 q.2) ∨ True := .inr trivial
        rcases hq q hqm with hm2 | hm2
        · refine .inl ?_
          unfold mP at hm2 ⊢
          simp only []
          by_cases e : bitOf t at_ i0 k0 = bitOf t at_ q.1 q.2
          · rw [e] at hq0; rw [hq0] at hm2; cases hm2
          · rw [List.getD_eq_getElem?_getD, List.getElem?_set_ne e, ← List.getD_eq_getElem?_getD]; exact hm2
        · rw [hd] at hm2
          rcases List.mem_cons.1 hm2 with e | hm2
          · simp only [Job.pair.injEq] at e
            refine .inl ?_
            rw [e.1, e.2]
            exact (mP_set (s := s) rfl ho.met hj0 hj0).2 (.inr ⟨rfl, rfl⟩)
          · exact .inr (by simp only [List.mem_append]; exact .inr (.inr hm2))
      · have : x = x0 := Option.some.inj (hx.symm.trans hx0)
        subst this
        refine ⟨h5, fun q hqm => .inr ?_⟩
        simp only [List.mem_append]
        exact .inl (List.mem_map.2 ⟨q, hqm, rfl⟩)
theorem Shut.iter_ (hc : checkB p = true) : ∀ (n : Nat) {s : MS}, Ok p t at_ s → Shut p t at_ s → Shut p t at_ (iter p t at_ n s)
  | 0, _, _, h => h
  | n + 1, _, ho, h => Shut.iter_ hc n (ho.step hc) (h.step hc ho)
theorem nexts_ok {x : Ins} {k : Nat} (hx : mayB x p.insts.length p.caps = true) (hk : k ≤ t.length) {q : Nat × Nat} (h : q ∈ nexts t x k) : q.1 < p.insts.length ∧ q.2 ≤ t.length := by
  unfold nexts at h
  by_cases h1 : x.op = 1
  · obtain ⟨a, b⟩ := may_x hx (.inl h1)
    rw [if_pos h1] at h
    split at h
    · rename_i hh
      simp at h; subst h; simp only []; omega
    · simp at h
  rw [if_neg h1] at h
  by_cases h2 : x.op = 2
  · obtain ⟨a, b⟩ := may_x hx (.inr (.inl h2))
    obtain ⟨a', b'⟩ := may_y hx h2
    rw [if_pos h2] at h
    simp at h
    rcases h with rfl | rfl <;> (simp only []; omega)
  rw [if_neg h2] at h
  by_cases h3 : x.op = 3
  · obtain ⟨a, b⟩ := may_x hx (.inr (.inr (.inl h3)))
    rw [if_pos h3] at h
    simp at h; subst h; simp only []; omega
  rw [if_neg h3] at h
  by_cases h4 : x.op = 4
  · obtain ⟨a, b⟩ := may_x hx (.inr (.inr (.inr (.inl h4))))
    rw [if_pos h4] at h
    split at h
    · simp at h; subst h; simp only []; omega
    · simp at h
  rw [if_neg h4] at h
  by_cases h7 : x.op = 7
  · obtain ⟨a, b⟩ := may_x hx (.inr (.inr (.inr (.inr h7))))
    rw [if_pos h7] at h
    simp at h; subst h; simp only []; omega
  · rw [if_neg h7] at h; simp at h
end
section
variable (p : Prg) (t : List Int)
variable {p t}
theorem rep_getD {n q : Nat} (h : q < n) : (List.replicate n false).getD q true = false := by
  rw [List.getD_eq_getElem?_getD, List.getElem?_replicate, if_pos h]; rfl
theorem start_job (hc : checkB p = true) {a b : Nat} (hb : a ≤ b ∧ b ≤ t.length) : JobOk p t a (.pair p.start.toNat b) := by
  unfold checkB headB at hc
  simp only [Bool.and_eq_true, decide_eq_true_eq] at hc
  have := hc.1
  exact ⟨by omega, hb⟩
theorem fresh_met {a b : Nat} {i k : Nat} (h : JobOk p t a (.pair i k)) : ¬ mP t a (begin_ p b (List.replicate (p.insts.length * places t a) false) 0) i k := by
  unfold mP begin_
  simp only []
  rw [rep_getD (bit_lt h)]
  simp
end
end Go.Proofs.Ytfgelkfnbohmmaa.Mach
namespace Go.Proofs.Ytfgelkfnbohmmaa
open Go.Proofs.Ytfgelkfnbohmmaa.Mach
theorem head_of {p : Prg} (h : checkB p = true) : 1 ≤ (p.insts.length : Int) ∧ (p.insts.length : Int) ≤ 20000 ∧ 0 ≤ p.start ∧ p.start < (p.insts.length : Int) ∧ 2 ≤ p.caps ∧ p.caps ≤ 1002 := by
  unfold checkB headB at h
  simp only [Bool.and_eq_true, decide_eq_true_eq] at h
  omega
theorem op_cases {x : Ins} {n caps : Int} (h : mayB x n caps = true) : x.op = 1 ∨ x.op = 2 ∨ x.op = 3 ∨ x.op = 4 ∨ x.op = 5 ∨ x.op = 6 ∨ x.op = 7 := by
  unfold mayB at h
  by_cases h1 : x.op = 1; · exact .inl h1
  by_cases h2 : x.op = 2; · exact .inr (.inl h2)
  by_cases h3 : x.op = 3; · exact .inr (.inr (.inl h3))
  by_cases h4 : x.op = 4; · exact .inr (.inr (.inr (.inl h4)))
  by_cases h5 : x.op = 5; · exact .inr (.inr (.inr (.inr (.inl h5))))
  by_cases h6 : x.op = 6; · exact .inr (.inr (.inr (.inr (.inr (.inl h6)))))
  by_cases h7 : x.op = 7; · exact .inr (.inr (.inr (.inr (.inr (.inr h7)))))
  simp [h1, h2, h3, h4, h5, h6, h7] at h
end Go.Proofs.Ytfgelkfnbohmmaa
