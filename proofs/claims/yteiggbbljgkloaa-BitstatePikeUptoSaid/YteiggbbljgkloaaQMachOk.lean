/- The machine of chapter 12: what stays true in its steps. No program here. -/
import Derived.Test.YteiggbbljgkloaaQMach
namespace Go.Proofs.Yteiggbbljgkloaa.Mach
section
variable (p : Prg) (t : List Int) (at_ : Nat)
def JobOk : Job → Prop
  | .pair i k => i < p.insts.length ∧ at_ ≤ k ∧ k ≤ t.length
  | .back c _ => c < p.caps.toNat
structure Ok (s : MS) : Prop where
  met : s.met.length = p.insts.length * places t at_
  caps : s.caps.length = p.caps.toNat
  jobs : ∀ j ∈ s.todo, JobOk p t at_ j
  room : 3 * unmet s + s.todo.length ≤ 3 * s.met.length + 2
  steps : s.steps + unmet s ≤ s.met.length
variable {p t at_}
theorem bit_lt {i k : Nat} (h : JobOk p t at_ (.pair i k)) : bitOf t at_ i k < p.insts.length * places t at_ := by
  obtain ⟨h1, h2, h3⟩ := h
  unfold bitOf places
  have : (i + 1) * (t.length - at_ + 1) ≤ p.insts.length * (t.length - at_ + 1) := Nat.mul_le_mul_right _ h1
  rw [Nat.succ_mul] at this
  omega
theorem may_of (hc : checkB p = true) {i : Nat} {x : Ins} (hx : p.insts[i]? = some x) : mayB x p.insts.length p.caps = true := by
  unfold checkB at hc
  rw [Bool.and_eq_true, List.all_eq_true] at hc
  exact hc.2 x (List.mem_of_getElem? hx)
theorem toNat_lt {x : Int} {n : Nat} (h0 : 0 ≤ x) (h : x < n) : x.toNat < n := by omega
theorem may_x {x : Ins} {n : Nat} {caps : Int} (h : mayB x n caps = true) (ho : x.op = 1 ∨ x.op = 2 ∨ x.op = 3 ∨ x.op = 4 ∨ x.op = 7) : 0 ≤ x.x ∧ x.x < n := by
  unfold mayB at h
  rcases ho with e | e | e | e | e <;> simp [e] at h <;> omega
theorem may_y {x : Ins} {n : Nat} {caps : Int} (h : mayB x n caps = true) (ho : x.op = 2) : 0 ≤ x.y ∧ x.y < n := by
  unfold mayB at h
  simp [ho] at h; omega
theorem may_arg {x : Ins} {n : Nat} {caps : Int} (h : mayB x n caps = true) (ho : x.op = 3) : 0 ≤ x.arg ∧ x.arg < caps := by
  unfold mayB at h
  simp [ho] at h; omega
theorem may_as {x : Ins} {n : Nat} {caps : Int} (h : mayB x n caps = true) (ho : x.op = 4) : ∃ j, j < 6 ∧ x.arg = ((2 ^ j : Nat) : Int) := by
  unfold mayB at h
  simp [ho, isAs] at h
  obtain ⟨_, h⟩ := h
  rcases h with ((((h | h) | h) | h) | h) | h
  · exact ⟨0, by omega, h⟩
  · exact ⟨1, by omega, h⟩
  · exact ⟨2, by omega, h⟩
  · exact ⟨3, by omega, h⟩
  · exact ⟨4, by omega, h⟩
  · exact ⟨5, by omega, h⟩
theorem may_which {x : Ins} {n : Nat} {caps : Int} (h : mayB x n caps = true) (ho : x.op = 5) : 0 ≤ x.arg ∧ x.arg < 100 := by
  unfold mayB at h
  simp [ho] at h; omega
theorem may_rng {x : Ins} {n : Nat} {caps : Int} (h : mayB x n caps = true) (ho : x.op = 1) : rightB x.rng = true := by
  unfold mayB at h
  simp [ho] at h; exact h.2

theorem mstep_back {s : MS} {c : Nat} {old : Int} {r : List Job} (hf : s.fin = none) (ht : s.todo = .back c old :: r) : mstep p t at_ s = { s with todo := r, caps := s.caps.set c old } := by
  unfold mstep; rw [hf, ht]
theorem mstep_met {s : MS} {i k : Nat} {r : List Job} (hf : s.fin = none) (ht : s.todo = .pair i k :: r) (hm : s.met.getD (bitOf t at_ i k) true = true) : mstep p t at_ s = { s with todo := r } := by
  unfold mstep; rw [hf, ht]; simp only [hm, if_true]
theorem mstep_pair {s : MS} {i k : Nat} {r : List Job} {x : Ins} (hf : s.fin = none) (ht : s.todo = .pair i k :: r) (hm : s.met.getD (bitOf t at_ i k) true = false) (hx : p.insts[i]? = some x) :
    mstep p t at_ s = eff t x k { s with todo := r, met := s.met.set (bitOf t at_ i k) true, steps := s.steps + 1 } := by
  unfold mstep; rw [hf, ht]; simp only [hm, hx, Bool.false_eq_true, if_false]

theorem unmet_set {s : MS} {q : Nat} {r : List Job} {c : List Int} {n : Nat} {f : Option Int} (h : s.met.getD q true = false) : unmet ⟨r, s.met.set q true, c, n, f⟩ + 1 = unmet s := count_set h

theorem Ok.eff_ {x : Ins} {k : Nat} {s : MS} (hx : mayB x p.insts.length p.caps = true) (hk : at_ ≤ k ∧ k ≤ t.length)
    (met : s.met.length = p.insts.length * places t at_) (caps : s.caps.length = p.caps.toNat) (jobs : ∀ j ∈ s.todo, JobOk p t at_ j)
    (room : 3 * unmet s + s.todo.length ≤ 3 * s.met.length) (steps : s.steps + unmet s ≤ s.met.length) : Ok p t at_ (eff t x k s) := by
  have hp : ∀ {y : Int} {m : Nat}, 0 ≤ y → y < p.insts.length → at_ ≤ m → m ≤ t.length → JobOk p t at_ (.pair y.toNat m) := fun a b c d => ⟨by omega, c, d⟩
  have jx : (x.op = 1 ∨ x.op = 2 ∨ x.op = 3 ∨ x.op = 4 ∨ x.op = 7) → ∀ m, at_ ≤ m → m ≤ t.length → JobOk p t at_ (.pair x.x.toNat m) := fun ho m a b => hp (may_x hx ho).1 (may_x hx ho).2 a b
  unfold eff
  repeat' split
  all_goals
    refine ⟨met, ?_, ?_, ?_, steps⟩
  all_goals first
    | exact caps
    | exact jobs
    | (simp only [unmet, List.length_cons] at *; omega)
    | (simp only [List.length_set]; exact caps)
    | skip
  all_goals intro j hj; simp only [List.mem_cons] at hj
  · rename_i ho hc
    rcases hj with rfl | hj
    · exact jx (.inl ho) _ (by omega) (by omega)
    · exact jobs j hj
  · rename_i _ ho
    rcases hj with rfl | rfl | hj
    · exact jx (.inr (.inl ho)) _ hk.1 hk.2
    · exact hp (may_y hx ho).1 (may_y hx ho).2 hk.1 hk.2
    · exact jobs j hj
  · rename_i _ _ ho
    rcases hj with rfl | rfl | hj
    · exact jx (.inr (.inr (.inl ho))) _ hk.1 hk.2
    · have := may_arg hx ho
      show x.arg.toNat < p.caps.toNat
      omega
    · exact jobs j hj
  · rename_i _ _ _ ho _
    rcases hj with rfl | hj
    · exact jx (.inr (.inr (.inr (.inl ho)))) _ hk.1 hk.2
    · exact jobs j hj
  · rename_i _ _ _ _ _ ho
    rcases hj with rfl | hj
    · exact jx (.inr (.inr (.inr (.inr ho)))) _ hk.1 hk.2
    · exact jobs j hj
/-- What is true stays so. -/
theorem Ok.step {s : MS} (hc : checkB p = true) (h : Ok p t at_ s) : Ok p t at_ (mstep p t at_ s) := by
  obtain ⟨todo, met, caps, steps, fin⟩ := s
  obtain ⟨hm, hcp, hj, hr, hs⟩ := h
  simp only [] at hm hcp hj hr hs
  cases fin with
  | some v => exact ⟨hm, hcp, hj, hr, hs⟩
  | none =>
    match todo with
    | [] => exact ⟨hm, hcp, hj, hr, hs⟩
    | .back c old :: r =>
      rw [mstep_back rfl rfl]
      exact ⟨hm, by simpa using hcp, fun j h => hj j (List.mem_cons_of_mem _ h), by simp only [unmet, List.length_cons] at *; omega, hs⟩
    | .pair i k :: r =>
      have hjk := hj _ List.mem_cons_self
      by_cases hq : met.getD (bitOf t at_ i k) true = true
      · rw [mstep_met rfl rfl hq]
        exact ⟨hm, hcp, fun j h => hj j (List.mem_cons_of_mem _ h), by simp only [unmet, List.length_cons] at *; omega, hs⟩
      · rw [Bool.not_eq_true] at hq
        obtain ⟨x, hx⟩ : ∃ x, p.insts[i]? = some x := ⟨_, List.getElem?_eq_getElem hjk.1⟩
        rw [mstep_pair rfl rfl hq hx]
        have hcount := count_set hq
        refine Ok.eff_ (may_of hc hx) hjk.2 (by simpa using hm) hcp (fun j h => hj j (List.mem_cons_of_mem _ h)) ?_ ?_
        · simp only [unmet, List.length_cons, List.length_set] at *; omega
        · simp only [unmet, List.length_set] at *; omega
/-- At a begin. -/
theorem Ok.start (hc : checkB p = true) (hat : at_ ≤ t.length) {b : Nat} (hb : at_ ≤ b ∧ b ≤ t.length) {met : List Bool} {steps : Nat} (hm : met.length = p.insts.length * places t at_) (hs : steps + met.count false ≤ met.length) :
    Ok p t at_ (begin_ p b met steps) := by
  unfold checkB headB at hc
  simp only [Bool.and_eq_true, decide_eq_true_eq] at hc
  have := hc.1
  have hcle : met.count false ≤ met.length := List.count_le_length
  refine ⟨hm, by simp [begin_], ?_, ?_, hs⟩
  · intro j hj
    simp only [begin_, List.mem_singleton] at hj
    subst hj
    exact ⟨by omega, hb⟩
  · simp only [begin_, unmet, List.length_cons, List.length_nil]; omega
end
end Go.Proofs.Yteiggbbljgkloaa.Mach
