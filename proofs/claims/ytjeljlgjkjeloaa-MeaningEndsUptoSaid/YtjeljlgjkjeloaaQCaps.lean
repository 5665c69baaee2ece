/- Captures lie within what a parse matches; how many Ends a table tells. No program here. -/
import Derived.Test.YtjeljlgjkjeloaaQEndsW
import Derived.Test.YtjeljlgjkjeloaaQTab
namespace Go.Proofs.Ytjeljlgjkjeloaa
open Go.Proofs.Ytjeljlgjkjeloaa.Tr Go.Proofs.Ytjeljlgjkjeloaa.Mach
namespace Mean

/-- Group g is open. -/
def Kt.opens (g : Nat) : Kt → Prop
  | .top => False
  | .row _ K => K.opens g
  | .grp i K => (2 * i + 1).toNat = 2 * g + 1 ∨ K.opens g
  | .dec _ K => K.opens g
/-- A group's two captures: none, or within. -/
def pairOk (a : Nat) (nt : List Int) (g pl : Nat) : Prop := (nt[2 * g]? = some (-1) ∧ nt[2 * g + 1]? = some (-1)) ∨ ∃ x y : Int, nt[2 * g]? = some x ∧ nt[2 * g + 1]? = some y ∧ (a : Int) ≤ x ∧ x ≤ y ∧ y ≤ (pl : Int)
def openOk (a : Nat) (nt : List Int) (g pl : Nat) : Prop := ∃ x : Int, nt[2 * g]? = some x ∧ (a : Int) ≤ x ∧ x ≤ (pl : Int)
/-- What is right of notes at a place. -/
def Good (a NL : Nat) (nt : List Int) (pl : Nat) (K : Kt) : Prop := a ≤ pl ∧ nt.length = NL ∧ ∀ g, 1 ≤ g → 2 * g + 1 < NL → (K.opens g → openOk a nt g pl) ∧ (¬ K.opens g → pairOk a nt g pl)
def TGood (a NL : Nat) : Task → Prop
  | .beg _ pl nt K => Good a NL nt pl K
  | .dcd _ pl nt K => Good a NL nt pl K
  | .go K pl nt => Good a NL nt pl K
def capsOk (a NL : Nat) (p : Nat × List Int) : Prop := a ≤ p.1 ∧ p.2.length = NL ∧ p.2[0]? = some (a : Int) ∧ p.2[1]? = some (p.1 : Int) ∧ ∀ g, 1 ≤ g → 2 * g + 1 < NL → pairOk a p.2 g p.1
section
variable {a NL : Nat} {nt : List Int} {pl pl' : Nat} {K : Kt} {t : List Int}
theorem pairOk.up {g : Nat} (h : pairOk a nt g pl) (hp : pl ≤ pl') : pairOk a nt g pl' := h.imp id fun ⟨x, y, h1, h2, h3, h4, h5⟩ => ⟨x, y, h1, h2, h3, h4, by omega⟩
theorem openOk.up {g : Nat} (h : openOk a nt g pl) (hp : pl ≤ pl') : openOk a nt g pl' := by
  obtain ⟨x, h1, h2, h3⟩ := h
  exact ⟨x, h1, h2, by omega⟩
theorem Good.up (h : Good a NL nt pl K) (hp : pl ≤ pl') : Good a NL nt pl' K := ⟨Nat.le_trans h.1 hp, h.2.1, fun g h1 h2 => ⟨fun ho => ((h.2.2 g h1 h2).1 ho).up hp, fun ho => ((h.2.2 g h1 h2).2 ho).up hp⟩⟩
/-- What opens is the same. -/
theorem Good.like {K' : Kt} (h : Good a NL nt pl K) (e : ∀ g, K'.opens g ↔ K.opens g) : Good a NL nt pl K' := ⟨h.1, h.2.1, fun g h1 h2 => by rw [e g]; exact h.2.2 g h1 h2⟩
theorem rowT_good {l : List Un} (h : Good a NL nt pl K) : TGood a NL (rowT l pl nt K) := by
  cases l with
  | nil => exact h
  | cons s l => exact h.like fun g => Iff.rfl
theorem choose_good {n : Un} {A : Kt} (h : Good a NL nt pl K) (hA : Good a NL nt pl A) : ∀ k ∈ choose n pl nt A K, TGood a NL k := by
  unfold choose
  intro k hk
  cases hs : n.subs with
  | nil => rw [hs] at hk; cases hk
  | cons s l =>
    rw [hs] at hk
    simp only [] at hk
    split at hk <;> (simp only [List.mem_cons, List.not_mem_nil, or_false] at hk; rcases hk with rfl | rfl)
    · exact h
    · exact hA
    · exact hA
    · exact h
/-- A group begins. -/
theorem Good.open_ {ix : Int} (h : Good a NL nt pl K) (hi : 0 ≤ ix) : Good a NL (nt.set (2 * ix).toNat pl) pl (.grp ix K) := by
  refine ⟨h.1, by rw [List.length_set]; exact h.2.1, fun g h1 h2 => ?_⟩
  have e1 : (2 * ix + 1).toNat = 2 * g + 1 ↔ (2 * ix).toNat = 2 * g := by omega
  have hl := h.2.1
  constructor
  · intro ho
    by_cases e : (2 * ix).toNat = 2 * g
    · exact ⟨pl, by rw [List.getElem?_set, if_pos e, if_pos (by omega)], by have := h.1; omega, by omega⟩
    · have ho2 : K.opens g := (show _ ∨ _ from ho).resolve_left fun g => e (e1.1 g)
      obtain ⟨x, g1, g2, g3⟩ := (h.2.2 g h1 h2).1 ho2
      exact ⟨x, by rw [List.getElem?_set, if_neg e]; exact g1, g2, g3⟩
  · intro ho
    have e : (2 * ix).toNat ≠ 2 * g := fun e => ho (.inl (e1.2 e))
    have ho2 : ¬ K.opens g := fun g => ho (.inr g)
    have h3 : (2 * ix).toNat ≠ 2 * g + 1 := by omega
    unfold pairOk
    rw [List.getElem?_set, if_neg e, List.getElem?_set, if_neg h3]
    exact (h.2.2 g h1 h2).2 ho2
/-- A group ends. -/
theorem Good.close {ix : Int} (h : Good a NL nt pl (.grp ix K)) : Good a NL (nt.set (2 * ix + 1).toNat pl) pl K := by
  refine ⟨h.1, by rw [List.length_set]; exact h.2.1, fun g h1 h2 => ?_⟩
  have hl := h.2.1
  have hev : (2 * ix + 1).toNat ≠ 2 * g := by omega
  constructor
  · intro ho
    obtain ⟨x, g1, g2, g3⟩ := (h.2.2 g h1 h2).1 (.inr ho)
    exact ⟨x, by rw [List.getElem?_set, if_neg hev]; exact g1, g2, g3⟩
  · intro ho
    unfold pairOk
    by_cases e : (2 * ix + 1).toNat = 2 * g + 1
    · obtain ⟨x, g1, g2, g3⟩ := (h.2.2 g h1 h2).1 (.inl e)
      refine .inr ⟨x, pl, ?_, ?_, g2, g3, Int.le_refl _⟩
      · rw [List.getElem?_set, if_neg hev]; exact g1
      · rw [List.getElem?_set, if_pos e, if_pos (by omega)]
    · rw [List.getElem?_set, if_neg hev, List.getElem?_set, if_neg e]
      exact (h.2.2 g h1 h2).2 fun g => g.elim e ho
theorem first_good {n : Un} (hix : n.kind = 7 → 0 ≤ n.ix) (h : Good a NL nt pl K) : ∀ k ∈ first t n pl nt K, TGood a NL k := by
  unfold first
  intro k hk
  split at hk
  · simp only [List.mem_singleton] at hk; subst hk; exact h
  split at hk
  · split at hk
    · simp only [List.mem_singleton] at hk; subst hk; exact h.up (Nat.le_succ _)
    · cases hk
  split at hk
  · split at hk
    · simp only [List.mem_singleton] at hk; subst hk; exact h
    · cases hk
  split at hk
  · simp only [List.mem_singleton] at hk; subst hk; exact rowT_good h
  split at hk
  · obtain ⟨s, hs, rfl⟩ := List.mem_map.1 hk
    exact h
  split at hk
  · rename_i h7
    split at hk
    · cases hk
    · simp only [List.mem_singleton] at hk; subst hk
      exact h.open_ (hix h7)
  split at hk
  · exact choose_good h h k hk
  split at hk
  · simp only [List.mem_singleton] at hk; subst hk; exact h
  split at hk
  · split at hk
    · cases hk
    · simp only [List.mem_singleton] at hk; subst hk; exact h.like fun g => Iff.rfl
  · cases hk
theorem top_good (h : Good a NL nt pl .top) (hN : 2 ≤ NL) : capsOk a NL (pl, (nt.set 0 a).set 1 pl) := by
  have hl := h.2.1
  refine ⟨h.1, by rw [List.length_set, List.length_set]; exact hl, ?_, ?_, fun g h1 h2 => ?_⟩
  · rw [List.getElem?_set, if_neg (by decide), List.getElem?_set, if_pos rfl, if_pos (by omega)]
  · rw [List.getElem?_set, if_pos rfl, if_pos (by rw [List.length_set]; omega)]
  · have := (h.2.2 g h1 h2).2 (fun g => g)
    unfold pairOk at this ⊢
    simp only []
    rw [List.getElem?_set, if_neg (by omega), List.getElem?_set, if_neg (by omega), List.getElem?_set, if_neg (by omega), List.getElem?_set, if_neg (by omega)]
    exact this
variable {U : List Un}
theorem work_good (hU : Closed U) (hix : ∀ n ∈ U, n.kind = 7 → 0 ≤ n.ix) (hN : 2 ≤ NL) {s : St} {k : Task} (hk : k.nice U) (h : TGood a NL k) (ho : ∀ p ∈ s.out, capsOk a NL p) : (∀ p ∈ (work t a s k).1.out, capsOk a NL p) ∧ ∀ x ∈ (work t a s k).2, TGood a NL x := by
  cases k with
  | beg n pl nt K =>
    refine ⟨ho, fun x hx => ?_⟩
    simp only [work] at hx
    split at hx
    · exact first_good (hix n hk.1) h x hx
    · cases hx
  | dcd n pl nt K =>
    refine ⟨ho, fun x hx => ?_⟩
    simp only [work] at hx
    split at hx
    · exact choose_good (A := .dec n K) h (Good.like h fun g => Iff.rfl) x hx
    · cases hx
  | go K pl nt =>
    cases K with
    | top =>
      refine ⟨fun p hp => ?_, fun x hx => by simp only [work] at hx; cases hx⟩
      simp only [work, ended] at hp
      split at hp
      · exact ho p hp
      · rcases List.mem_append.1 hp with hp | hp
        · exact ho p hp
        · rw [List.mem_singleton] at hp; subst hp; exact top_good h hN
    | row l K => exact ⟨ho, fun x hx => by simp only [work, List.mem_singleton] at hx; subst hx; exact rowT_good (Good.like h fun g => Iff.rfl)⟩
    | grp i K => exact ⟨ho, fun x hx => by simp only [work, List.mem_singleton] at hx; subst hx; exact Good.close h⟩
    | dec n K => exact ⟨ho, fun x hx => by simp only [work, List.mem_singleton] at hx; subst hx; exact Good.like h fun g => Iff.rfl⟩
mutual
theorem one_good (hU : Closed U) (hix : ∀ n ∈ U, n.kind = 7 → 0 ≤ n.ix) (hN : 2 ≤ NL) : ∀ {s s1 : St} {k : Task}, One t a s k s1 → k.nice U → TGood a NL k → (∀ p ∈ s.out, capsOk a NL p) → ∀ p ∈ s1.out, capsOk a NL p
  | s, s1, k, .mk h, hk, hg, ho => by
    obtain ⟨h1, h2⟩ := work_good hU hix hN hk hg ho
    exact many_good hU hix hN h (work_nice hU hk) h2 h1
theorem many_good (hU : Closed U) (hix : ∀ n ∈ U, n.kind = 7 → 0 ≤ n.ix) (hN : 2 ≤ NL) : ∀ {s s1 : St} {l : List Task}, Many t a s l s1 → (∀ k ∈ l, k.nice U) → (∀ k ∈ l, TGood a NL k) → (∀ p ∈ s.out, capsOk a NL p) → ∀ p ∈ s1.out, capsOk a NL p
  | s, _, [], .nil, _, _, ho => ho
  | s, s1, k :: l, .cons h1 h2, hk, hg, ho => many_good hU hix hN h2 (fun x hx => hk x (List.mem_cons_of_mem _ hx)) (fun x hx => hg x (List.mem_cons_of_mem _ hx)) (one_good hU hix hN h1 (hk k List.mem_cons_self) (hg k List.mem_cons_self) ho)
end
end
end Mean
/-- The captures of all parses lie within. -/
theorem caps_within {t : List Int} {a : Nat} {u : Mean.Un} {tr : Tr.Tr} {s' : Mean.St} (hso : soundB tr = true) (hsh : shU u = unfS tr) (h : Mean.One t a st0 (.beg u a (List.replicate (2 + 2 * (greatest tr).toNat) (-1)) .top) s') : ∀ p ∈ s'.out, Mean.capsOk a (2 + 2 * (greatest tr).toNat) p := by
  have hall := sound_parts hso
  have hok := all_ok u (g := greatest tr) (by rw [hsh]; exact unf_ok tr hall)
  refine Mean.one_good (U := u.all) (all_closed u) (fun n hn h7 => ((hok n hn).2.2.2.1 h7).1) (by omega) h ⟨by rw [Mean.all_subs]; exact List.mem_cons_self, trivial⟩ ⟨Nat.le_refl _, List.length_replicate, fun g h1 h2 => ⟨fun ho => ho.elim, fun _ => .inl ⟨?_, ?_⟩⟩⟩ (fun p hp => by cases hp)
  · rw [List.getElem?_replicate, if_pos (by omega)]
  · rw [List.getElem?_replicate, if_pos (by omega)]
end Go.Proofs.Ytjeljlgjkjeloaa
