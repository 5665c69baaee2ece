/- The document's example: the walker's answer. No program here. -/
import Derived.Test.YtjeljlgjkjeloaaQParW
namespace Go.Proofs.Ytjeljlgjkjeloaa
namespace Mean
open Go.Proofs.Ytjeljlgjkjeloaa.Mach

section
variable (t : List Int) (at_ : Nat)
/-- Tasks, one after the other, so many steps. -/
def runF : Nat → St → List Task → Option St
  | 0, _, _ => none
  | _ + 1, s, [] => some s
  | n + 1, s, k :: l => runF n (work t at_ s k).1 ((work t at_ s k).2 ++ l)
end
section
variable {t : List Int} {at_ : Nat}
mutual
theorem one_run : ∀ {s s' : St} {k : Task}, One t at_ s k s' → ∃ n, ∀ m l, runF t at_ (n + m) s (k :: l) = runF t at_ m s' l
  | s, s', k, .mk h => by
    obtain ⟨n, hn⟩ := many_run h
    refine ⟨n + 1, fun m l => ?_⟩
    rw [show n + 1 + m = (n + m) + 1 from by omega, runF]
    exact hn m l
theorem many_run : ∀ {s s' : St} {l : List Task}, Many t at_ s l s' → ∃ n, ∀ m l', runF t at_ (n + m) s (l ++ l') = runF t at_ m s' l'
  | s, _, [], .nil => ⟨0, fun m l' => by rw [Nat.zero_add]; rfl⟩
  | s, s', k :: l, .cons h1 h2 => by
    obtain ⟨n1, e1⟩ := one_run h1
    obtain ⟨n2, e2⟩ := many_run h2
    refine ⟨n1 + n2, fun m l' => ?_⟩
    rw [Nat.add_assoc, List.cons_append, e1, e2]
end
theorem run_more {s s' : St} : ∀ {n : Nat} {s : St} {l : List Task}, runF t at_ n s l = some s' → ∀ k, runF t at_ (n + k) s l = some s'
  | 0, _, _, h, _ => by cases h
  | n + 1, s, [], h, k => by rw [show n + 1 + k = (n + k) + 1 from by omega]; exact h
  | n + 1, s, x :: l, h, k => by
    rw [show n + 1 + k = (n + k) + 1 from by omega, runF]
    rw [runF] at h
    exact run_more (s := s) h k
theorem run_one {s s' s0 : St} {k : Task} (h : One t at_ s k s') {n : Nat} (hr : runF t at_ n s [k] = some s0) : s' = s0 := by
  obtain ⟨m, hm⟩ := one_run h
  have h1 := run_more (s := s) (hm 1 []) n
  have h2 := run_more (s := s) hr (m + 1)
  rw [Nat.add_comm] at h2
  rw [h1] at h2
  exact Option.some.inj h2
end
/-- A state whose marks are a list. -/
def mkSt (L : List Mark) (o : List (Nat × List Int)) (c : Nat) : St := ⟨fun m => L.count m, o, c⟩
theorem mk_mark (L : List Mark) (o : List (Nat × List Int)) (c : Nat) (m : Mark) : (mkSt L o c).mark m = mkSt (m :: L) o (c + 1) := by
  unfold mkSt St.mark
  simp only [St.mk.injEq, and_self, and_true]
  funext x
  rw [List.count_cons]
  by_cases e : x = m
  · subst e; simp
  · rw [if_neg e, if_neg (by simpa using fun h => e h.symm)]
    rfl
theorem mk_met (L : List Mark) (o : List (Nat × List Int)) (c : Nat) (m : Mark) : ((mkSt L o c).met m = 0) ↔ m ∉ L := List.count_eq_zero
theorem mk_out (L : List Mark) (o : List (Nat × List Int)) (c : Nat) : (mkSt L o c).out = o := rfl
theorem mk_ended (at_ : Nat) (L : List Mark) (o : List (Nat × List Int)) (c pl : Nat) (nt : List Int) : ended at_ (mkSt L o c) pl nt = if o.any (fun p => p.1 == pl) then mkSt L o c else mkSt L (o ++ [(pl, (nt.set 0 at_).set 1 pl)]) c := rfl
end Mean
open Go.Proofs.Ytjeljlgjkjeloaa.Tr
theorem mk_st0 : st0 = Mean.mkSt [] [] 0 := rfl

/-- (|a)+ -/
def awT : Tr.Tr := .mk 6 [] 0 [.mk 7 [] 0 [.mk 5 [] 0 [.mk 1 [] 0 [] 0 0 false 0 ⟨#[]⟩, .mk 2 [(97, 97)] 0 [] 0 0 false 0 ⟨#[]⟩] 0 0 false 0 ⟨#[]⟩] 0 0 false 1 ⟨#[]⟩] 1 (-1) false 0 ⟨#[]⟩
theorem shU_mk {u : Mean.Un} {k a i : Int} {r : List (Int × Int)} {z : Bool} {l : List Us} (h : shU u = .mk k r a i z l) : ∃ ad us, u = .mk ad k r a i z us ∧ shUs us = l := by
  cases u
  rw [shU] at h
  injection h with h1 h2 h3 h4 h5 h6
  subst h1 h2 h3 h4 h5
  exact ⟨_, _, rfl, h6⟩
theorem shUs_cons {l : List Mean.Un} {s : Us} {r : List Us} (h : shUs l = s :: r) : ∃ u l', l = u :: l' ∧ shU u = s ∧ shUs l' = r := by
  cases l with
  | nil => simp [shUs] at h
  | cons u l' => rw [shUs] at h; injection h with h1 h2; exact ⟨u, l', rfl, h1, h2⟩
theorem shUs_nil {l : List Mean.Un} (h : shUs l = []) : l = [] := by
  cases l with
  | nil => rfl
  | cons u l' => simp [shUs] at h
theorem aw_runs {u : Mean.Un} (h : shU u = unfS awT) (hnd : (u.all.map Mean.Un.ad).Nodup) {s' : Mean.St} (hone : Mean.One [97] 0 st0 (.beg u 0 (List.replicate 4 (-1)) .top) s') : s'.out = [(0, [0, 0, 0, 0]), (1, [0, 1, 0, 1])] := by
  have e : unfS awT = .mk 4 [] 0 0 false [.mk (-3) [] 0 0 false [.mk 7 [] 0 1 false [.mk 5 [] 0 0 false [.mk 1 [] 0 0 false [], .mk 2 [(97, 97)] 0 0 false []]]]] := by
    simp [awT, unfS, unfSs, repU, loopU, catU, emptyU]
  rw [e] at h
  obtain ⟨a0, l0, rfl, h0⟩ := shU_mk h
  obtain ⟨u1, m1, rfl, h1, e1⟩ := shUs_cons h0
  obtain rfl := shUs_nil e1
  obtain ⟨a1, l1, rfl, g1⟩ := shU_mk h1
  obtain ⟨u2, m2, rfl, h2, e2⟩ := shUs_cons g1
  obtain rfl := shUs_nil e2
  obtain ⟨a2, l3, rfl, g2⟩ := shU_mk h2
  obtain ⟨u3, m3, rfl, h3, e3⟩ := shUs_cons g2
  obtain rfl := shUs_nil e3
  obtain ⟨a3, l5, rfl, g3⟩ := shU_mk h3
  obtain ⟨u4, m4, rfl, h4, e4⟩ := shUs_cons g3
  obtain ⟨u5, m5, rfl, h5, e5⟩ := shUs_cons e4
  obtain rfl := shUs_nil e5
  obtain ⟨a4, l8, rfl, g4⟩ := shU_mk h4
  obtain rfl := shUs_nil g4
  obtain ⟨a5, l9, rfl, g5⟩ := shU_mk h5
  obtain rfl := shUs_nil g5
  clear h h0 e1 h1 g1 e2 h2 g2 e3 h3 g3 e4 h4 e5 g4 h5 g5 e
  simp only [Mean.Un.all, Mean.allU, List.append_nil, List.cons_append, List.nil_append, List.map_cons, List.map_nil, Mean.Un.ad, List.nodup_cons, List.mem_cons, List.not_mem_nil, or_false, not_or, not_false_eq_true, List.nodup_nil, and_true] at hnd
  obtain ⟨⟨n01, n02, n03, n04, n05⟩, ⟨n12, n13, n14, n15⟩, ⟨n23, n24, n25⟩, ⟨n34, n35⟩, n45⟩ := hnd
  have n10 := Ne.symm n01
  have n20 := Ne.symm n02
  have n30 := Ne.symm n03
  have n40 := Ne.symm n04
  have n50 := Ne.symm n05
  have n21 := Ne.symm n12
  have n31 := Ne.symm n13
  have n41 := Ne.symm n14
  have n51 := Ne.symm n15
  have n32 := Ne.symm n23
  have n42 := Ne.symm n24
  have n52 := Ne.symm n25
  have n43 := Ne.symm n34
  have n53 := Ne.symm n35
  have n54 := Ne.symm n45
  have hm : memB [(97, 97)] 97 = true := by decide
  suffices hs : ∃ s0, Mean.runF [97] 0 40 st0 [.beg (.mk a0 4 [] 0 0 false [.mk a1 (-3) [] 0 0 false [.mk a2 7 [] 0 1 false [.mk a3 5 [] 0 0 false [.mk a4 1 [] 0 0 false [], .mk a5 2 [(97, 97)] 0 0 false []]]]]) 0 (List.replicate 4 (-1)) .top] = some s0 ∧ s0.out = [(0, [0, 0, 0, 0]), (1, [0, 1, 0, 1])] by
    obtain ⟨s0, h1, h2⟩ := hs
    rw [Mean.run_one hone h1]
    exact h2
  simp only [Mean.runF, Mean.work, Mean.first, Mean.choose, Mean.rowT, Mean.mk_ended, mk_st0, Mean.mk_mark, Mean.mk_met, Mean.mk_out, List.mem_cons, List.not_mem_nil, not_false_eq_true, or_false, false_or, or_true, true_or, not_true_eq_false,  Mean.Un.ad, Mean.Un.kind, Mean.Un.subs, Mean.Un.rng, Mean.Un.ix, Mean.Un.lz, List.replicate, List.cons_append, List.nil_append, List.map_cons, List.map_nil, List.append_nil, reduceIte, Int.reduceNeg, Int.reduceEq, Prod.mk.injEq, n01, n02, n03, n04, n05, n10, n20, n30, n40, n50, n12, n13, n14, n15, n23, n24, n25, n34, n35, n45, n21, n31, n41, n51, n32, n42, n52, n43, n53, n54, false_and, and_false, true_and, and_true, reduceCtorEq, Nat.reduceAdd, Nat.reduceEqDiff, if_false, if_true, hm, List.length_cons, List.length_nil, List.getD_cons_zero, Nat.zero_add, Nat.lt_irrefl, Nat.reduceLT, List.any_nil, List.any_cons, Bool.or_false, Bool.or_true, Bool.false_or, beq_iff_eq, Bool.false_eq_true, Nat.one_ne_zero, Nat.zero_ne_one, Nat.succ_ne_zero, ite_false, ite_true, Int.reduceMul, Int.reduceAdd, Int.reduceToNat, List.set_cons_zero, List.set_cons_succ, Int.mul_one]
  exact ⟨_, rfl, rfl⟩
end Go.Proofs.Ytjeljlgjkjeloaa
