/- What is right of an unfolded tree's nodes. No program here. -/
import Derived.Test.YtjeljlgjkjeloaaQUf0
import Derived.Test.YtjeljlgjkjeloaaQSimp
namespace Go.Proofs.Ytjeljlgjkjeloaa
open Go.RowKit Go.Proofs.Ytjeljlgjkjeloaa.Tr

/-- A node of an unfolded tree, those below it apart. -/
def nodeOk (g : Int) (k : Int) (r : List (Int × Int)) (a i : Int) (n : Nat) : Prop :=
  (k = 1 ∨ k = 2 ∨ k = 3 ∨ k = 4 ∨ k = 5 ∨ k = 7 ∨ k = -1 ∨ k = -2 ∨ k = -3) ∧ (k = 2 → rightB r = true) ∧ (k = 3 → ∃ j : Nat, j < 6 ∧ a = ((2 ^ j : Nat) : Int)) ∧ (k = 7 → 0 ≤ i ∧ i ≤ g) ∧ (k = 7 ∨ k = -1 ∨ k = -2 ∨ k = -3 → 0 < n)
mutual
def okS (g : Int) : Us → Prop
  | .mk k r a i _ l => nodeOk g k r a i l.length ∧ okSs g l
def okSs (g : Int) : List Us → Prop
  | [] => True
  | u :: l => okS g u ∧ okSs g l
end
theorem okSs_iff {g : Int} : ∀ l : List Us, okSs g l ↔ ∀ u ∈ l, okS g u
  | [] => by simp [okSs]
  | u :: l => by rw [okSs, okSs_iff l]; simp
theorem nodeOk.mono {g g' k a i : Int} {r : List (Int × Int)} {n : Nat} (h : nodeOk g k r a i n) (hg : g ≤ g') : nodeOk g' k r a i n :=
  ⟨h.1, h.2.1, h.2.2.1, fun e => ⟨(h.2.2.2.1 e).1, Int.le_trans (h.2.2.2.1 e).2 hg⟩, h.2.2.2.2⟩
mutual
theorem okS_mono {g g' : Int} (hg : g ≤ g') : ∀ u : Us, okS g u → okS g' u
  | .mk _ _ _ _ _ l, h => ⟨h.1.mono hg, okSs_mono hg l h.2⟩
theorem okSs_mono {g g' : Int} (hg : g ≤ g') : ∀ l : List Us, okSs g l → okSs g' l
  | [], _ => trivial
  | u :: l, h => ⟨okS_mono hg u h.1, okSs_mono hg l h.2⟩
end
section
variable {g : Int} {x : Us}
theorem empty_ok : okS g emptyU := ⟨⟨.inl rfl, by simp, by simp, by simp, by simp⟩, trivial⟩
theorem loop_ok {k : Int} {z : Bool} (hk : k = -1 ∨ k = -2 ∨ k = -3) (h : okS g x) : okS g (loopU k z x) := by
  refine ⟨⟨by omega, fun e => by omega, fun e => by omega, fun e => by omega, fun _ => by simp⟩, h, trivial⟩
theorem cat_ok {l : List Us} (h : ∀ u ∈ l, okS g u) : okS g (catU l) := ⟨⟨by omega, fun e => by omega, fun e => by omega, fun e => by omega, fun e => by omega⟩, (okSs_iff l).2 h⟩
theorem opt_ok {z : Bool} (h : okS g x) : ∀ n : Nat, okS g (optU z x n)
  | 0 => loop_ok (.inl rfl) h
  | n + 1 => loop_ok (.inl rfl) (cat_ok fun u hu => by
    simp only [List.mem_cons, List.not_mem_nil, or_false] at hu
    rcases hu with rfl | rfl
    · exact h
    · exact opt_ok h n)
theorem rep_ok {n m : Int} {z : Bool} (h : okS g x) : okS g (repU x n m z) := by
  unfold repU
  split
  · split
    · exact loop_ok (.inr (.inl rfl)) h
    · refine cat_ok fun u hu => ?_
      rcases List.mem_append.1 hu with hu | hu
      · rw [(List.mem_replicate.1 hu).2]; exact h
      · simp only [List.mem_singleton] at hu
        rw [hu]; exact loop_ok (.inr (.inr rfl)) h
  · split
    · exact empty_ok
    · refine cat_ok fun u hu => ?_
      rcases List.mem_append.1 hu with hu | hu
      · rw [(List.mem_replicate.1 hu).2]; exact h
      · split at hu
        · simp only [List.mem_singleton] at hu
          rw [hu]; exact opt_ok h _
        · cases hu
end
theorem assert_pow {a : Int} (h : assertB a = true) : ∃ j : Nat, j < 6 ∧ a = ((2 ^ j : Nat) : Int) := by
  unfold assertB at h
  simp only [Bool.or_eq_true, beq_iff_eq] at h
  rcases h with ((((h | h) | h) | h) | h) | h
  · exact ⟨0, by decide, by rw [h]; rfl⟩
  · exact ⟨1, by decide, by rw [h]; rfl⟩
  · exact ⟨2, by decide, by rw [h]; rfl⟩
  · exact ⟨3, by decide, by rw [h]; rfl⟩
  · exact ⟨4, by decide, by rw [h]; rfl⟩
  · exact ⟨5, by decide, by rw [h]; rfl⟩
theorem node_ok {k : Int} {r : List (Int × Int)} {a n m : Int} {z : Bool} {i g : Int} {s : ByteArray} {q : Nat} (h : nodeF k r a q n m z i s = true) (hk : k ≠ 6) (hg : i ≤ g) : nodeOk g k r a i q := by
  unfold nodeF at h
  by_cases k1 : k = 1
  · subst k1; exact ⟨by omega, fun e => by omega, fun e => by omega, fun e => by omega, fun e => by omega⟩
  rw [if_neg k1] at h
  by_cases k2 : k = 2
  · subst k2
    simp only [reduceIte, Bool.and_eq_true] at h
    exact ⟨by omega, fun _ => h.2.2, fun e => by omega, fun e => by omega, fun e => by omega⟩
  rw [if_neg k2] at h
  by_cases k3 : k = 3
  · subst k3
    simp only [reduceIte, Bool.and_eq_true] at h
    exact ⟨by omega, fun e => by omega, fun _ => assert_pow h.2.2, fun e => by omega, fun e => by omega⟩
  rw [if_neg k3] at h
  by_cases k4 : k = 4
  · subst k4; exact ⟨by omega, fun e => by omega, fun e => by omega, fun e => by omega, fun e => by omega⟩
  rw [if_neg k4] at h
  by_cases k5 : k = 5
  · subst k5; exact ⟨by omega, fun e => by omega, fun e => by omega, fun e => by omega, fun e => by omega⟩
  rw [if_neg k5, if_neg hk] at h
  by_cases k7 : k = 7
  · subst k7
    simp only [reduceIte, Bool.and_eq_true, beq_iff_eq, decide_eq_true_eq] at h
    exact ⟨by omega, fun e => by omega, fun e => by omega, fun _ => ⟨by omega, hg⟩, fun _ => by omega⟩
  · rw [if_neg k7] at h; cases h
mutual
theorem unf_ok : ∀ t : Tr.Tr, allB t = true → okS (greatest t) (unfS t)
  | .mk k r a l n m z i s, h => by
    obtain ⟨hnb, hsub⟩ := (allB_iff _).1 h
    have hs := unfs_ok l hsub
    have hge := greatests_ge l i
    have hall : ∀ u ∈ unfSs l, okS (greatests l i) u := fun u hu => by
      rw [unfSs_map] at hu
      obtain ⟨v, hv, rfl⟩ := List.mem_map.1 hu
      exact okS_mono (hge.2 v hv) _ (hs v hv)
    rw [unfS, greatest]
    split
    · rename_i hk
      refine ⟨?_, (okSs_iff _).2 hall⟩
      rw [show (unfSs l).length = l.length from by rw [unfSs_map, List.length_map]]
      exact node_ok hnb hk hge.1
    · refine rep_ok ?_
      cases hx : unfSs l with
      | nil => exact empty_ok
      | cons x l' => exact hall x (by rw [hx]; simp)
theorem unfs_ok : ∀ l : List Tr.Tr, (∀ u ∈ l, allB u = true) → ∀ u ∈ l, okS (greatest u) (unfS u)
  | [], _ => fun u hu => by cases hu
  | t :: l, h => fun u hu => by
    rcases List.mem_cons.1 hu with e | hu
    · rw [e]; exact unf_ok t (h t List.mem_cons_self)
    · exact unfs_ok l (fun v hv => h v (List.mem_cons_of_mem _ hv)) u hu
end
mutual
/-- All nodes of a tree are right. -/
theorem all_ok {g : Int} : ∀ u : Mean.Un, okS g (shU u) → ∀ n ∈ u.all, nodeOk g n.kind n.rng n.ast n.ix n.subs.length
  | .mk ad k r a i z l, h => fun n hn => by
    rw [Mean.Un.all] at hn
    rw [shU] at h
    rcases List.mem_cons.1 hn with rfl | hn
    · have := h.1
      rwa [shUs_map, List.length_map] at this
    · exact alls_ok l h.2 n hn
theorem alls_ok {g : Int} : ∀ l : List Mean.Un, okSs g (shUs l) → ∀ n ∈ Mean.allU l, nodeOk g n.kind n.rng n.ast n.ix n.subs.length
  | [], _ => fun n hn => by rw [Mean.allU] at hn; cases hn
  | u :: l, h => fun n hn => by
    rw [Mean.allU] at hn
    rw [shUs] at h
    rcases List.mem_append.1 hn with hn | hn
    · exact all_ok u h.1 n hn
    · exact alls_ok l h.2 n hn
end
/-! ### how many nodes -/
mutual
def szU : Us → Nat
  | .mk _ _ _ _ _ l => szUs l + 1
def szUs : List Us → Nat
  | [] => 0
  | u :: l => szU u + szUs l
end
mutual
theorem all_len : ∀ u : Mean.Un, u.all.length = szU (shU u)
  | .mk _ _ _ _ _ _ l => by rw [Mean.Un.all, List.length_cons, shU, szU, alls_len l]
theorem alls_len : ∀ l : List Mean.Un, (Mean.allU l).length = szUs (shUs l)
  | [] => rfl
  | u :: l => by rw [Mean.allU, List.length_append, shUs, szUs, all_len u, alls_len l]
end
end Go.Proofs.Ytjeljlgjkjeloaa
