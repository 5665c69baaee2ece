/- A tree and its simple form unfold to one flat form. No program here. -/
import Derived.Test.YteimpcjafgllpaaQ13
import Derived.Test.YteimpcjafgllpaaQ14
import Derived.Test.YteimpcjafgllpaaQ17
namespace Go.Proofs.Yteimpcjafgllpaa
open Go.Proofs.Yteimpcjafgllpaa.Mach
/-- The flat form of a tree's unfolded form. -/
def nfT (t : Tr.Tr) : Us := nfU (unfS t)
theorem nfT_node {k : Int} {r : List (Int × Int)} {a : Int} {l : List Tr.Tr} {n m : Int} {z : Bool} {i : Int} {s : ByteArray} (h : k ≠ 6) : nfT (.mk k r a l n m z i s) = nfK k r a i false (l.map nfT) := by
  unfold nfT
  rw [unfS, if_pos h, nfU, nfUs_map, unfSs_map, List.map_map]; rfl
theorem nfT_empty : nfT Tr.emptyT = emptyU := by
  rw [Tr.emptyT, nfT_node (by decide)]; rfl
theorem nfT_form (t : Tr.Tr) : FormU (nfT t) := nf_form _
theorem atoms_of {l : List Tr.Tr} : ∀ y ∈ (l.map nfT).flatMap putU, atomU y := by
  intro y hy
  obtain ⟨x, hx, hy⟩ := List.mem_flatMap.1 hy
  obtain ⟨m, -, rfl⟩ := List.mem_map.1 hx
  exact put_form (nfT_form m) y hy
theorem nfT_row : ∀ L : List Tr.Tr, nfT (Tr.row L) = rowU ((L.map nfT).flatMap putU)
  | [] => nfT_empty
  | [x] => by
    show nfT x = rowU (putU (nfT x) ++ [])
    rw [List.append_nil, row_put (nfT_form x)]
  | x :: y :: l => by
    show nfT (Tr.catT (x :: y :: l)) = _
    rw [Tr.catT, nfT_node (by decide)]; rfl
theorem putT_nf (x : Tr.Tr) : ((Tr.putT x).map nfT).flatMap putU = putU (nfT x) := by
  cases x with
  | mk k r a l n m z i s =>
    unfold Tr.putT
    show (List.map nfT (if k = 1 then [] else if k = 4 then l else [_])).flatMap putU = _
    by_cases k1 : k = 1
    · rw [if_pos k1, nfT_node (by rw [k1]; decide)]
      unfold nfK
      rw [if_pos k1]; rfl
    rw [if_neg k1]
    by_cases k4 : k = 4
    · rw [if_pos k4, nfT_node (by rw [k4]; decide)]
      unfold nfK
      rw [if_neg k1, if_pos k4, put_row atoms_of]
    · rw [if_neg k4, List.map_cons, List.map_nil, List.flatMap_cons, List.flatMap_nil, List.append_nil]
theorem putTs_nf : ∀ L : List Tr.Tr, ((L.flatMap Tr.putT).map nfT).flatMap putU = (L.map nfT).flatMap putU
  | [] => rfl
  | x :: L => by rw [List.flatMap_cons, List.map_append, List.flatMap_append, putT_nf, putTs_nf L, List.map_cons, List.flatMap_cons]
theorem altT_nf (x : Tr.Tr) : ((Tr.altPut x).map nfT).flatMap altU = altU (nfT x) := by
  cases x with
  | mk k r a l n m z i s =>
    unfold Tr.altPut
    show (List.map nfT (if k = 5 then l else [_])).flatMap altU = _
    by_cases k5 : k = 5
    · rw [if_pos k5, nfT_node (by rw [k5]; decide)]
      unfold nfK
      rw [if_neg (by rw [k5]; decide), if_neg (by rw [k5]; decide), if_pos k5]; rfl
    · rw [if_neg k5, List.map_cons, List.map_nil, List.flatMap_cons, List.flatMap_nil, List.append_nil]
theorem altTs_nf : ∀ L : List Tr.Tr, ((L.flatMap Tr.altPut).map nfT).flatMap altU = (L.map nfT).flatMap altU
  | [] => rfl
  | x :: L => by rw [List.flatMap_cons, List.map_append, List.flatMap_append, altT_nf, altTs_nf L, List.map_cons, List.flatMap_cons]
theorem nf_loop {k : Int} {z : Bool} {x : Us} (h1 : k ≠ 1) (h4 : k ≠ 4) (h5 : k ≠ 5) : nfU (loopU k z x) = loopU k z (nfU x) := by
  unfold loopU
  rw [nfU, nfUs_map]
  unfold nfK
  rw [if_neg h1, if_neg h4, if_neg h5]; rfl
theorem nf_cat (l : List Us) : nfU (catU l) = rowU ((l.map nfU).flatMap putU) := by
  unfold catU
  rw [nfU, nfUs_map]; rfl
theorem loop_atom {k : Int} {z : Bool} {x : Us} (h1 : k ≠ 1) (h4 : k ≠ 4) : putU (loopU k z x) = [loopU k z x] := putU_atom ⟨h1, h4⟩
theorem nfT_rep {s : Tr.Tr} {n m : Int} {z : Bool} : nfT (Tr.repT s n m z) = nfU (repU (unfS s) n m z) := by
  unfold nfT Tr.repT
  rw [unfS, if_neg (by decide), unfSs, unfSs]; rfl
theorem nfT_rep01 {s : Tr.Tr} {z : Bool} : nfT (Tr.repT s 0 1 z) = loopU (-1) z (nfT s) := by
  rw [nfT_rep, show repU (unfS s) 0 1 z = catU [loopU (-1) z (unfS s)] from rfl, nf_cat, List.map_cons, List.map_nil, nf_loop (by decide) (by decide) (by decide), List.flatMap_cons, List.flatMap_nil, List.append_nil, loop_atom (by decide) (by decide)]; rfl
theorem nf_opt {y : Tr.Tr} {w : Us} {z : Bool} (h : nfT y = nfU w) : ∀ d, nfT (Tr.optS y z (d + 1)) = nfU (optU z w d)
  | 0 => by
    rw [Tr.optS, nfT_rep01, optU, nf_loop (by decide) (by decide) (by decide), Tr.optS, ← h]
    congr 1
    rw [show Tr.putT y ++ Tr.putT Tr.emptyT = [y].flatMap Tr.putT from rfl, nfT_row, putTs_nf, List.map_cons, List.map_nil, List.flatMap_cons, List.flatMap_nil, List.append_nil, row_put (nfT_form y)]
  | d + 1 => by
    rw [Tr.optS, nfT_rep01, optU, nf_loop (by decide) (by decide) (by decide)]
    congr 1
    rw [show Tr.putT y ++ Tr.putT (Tr.optS y z (d + 1)) = [y, Tr.optS y z (d + 1)].flatMap Tr.putT from by simp, nfT_row, putTs_nf, nf_cat]
    simp only [List.map_cons, List.map_nil]
    rw [nf_opt h d, h]
theorem flat_rep (y : Tr.Tr) : ∀ q : Nat, (List.replicate q (Tr.putT y)).flatten = (List.replicate q y).flatMap Tr.putT
  | 0 => rfl
  | q + 1 => by rw [List.replicate_succ, List.replicate_succ, List.flatten_cons, List.flatMap_cons, flat_rep y q]
/-- The simple form unfolds to the same flat form. -/
theorem nf_simple : ∀ t : Tr.Tr, Tr.allB t = true → nfT (Tr.simpleS t) = nfT t := by
  intro t
  induction t using Tr.Tr.ind with
  | h t ih =>
    intro hall
    obtain ⟨hnb, hsb⟩ := (Tr.allB_iff _).1 hall
    cases t with
    | mk k r a l n m z i s =>
      have ih' : ∀ x ∈ l, nfT (Tr.simpleS x) = nfT x := fun x hx => ih x hx (hsb x hx)
      have hml : (l.map Tr.simpleS).map nfT = l.map nfT := by rw [List.map_map]; exact List.map_congr_left fun x hx => ih' x hx
      unfold Tr.nodeB Tr.nodeF at hnb
      rw [Tr.simpleS, Tr.simplesS_map]
      by_cases k7 : k = 7
      · subst k7
        simp only [reduceIte, Int.reduceEq, Bool.and_eq_true, beq_iff_eq] at hnb
        obtain ⟨hz, hq, -⟩ := hnb
        obtain ⟨x, rfl⟩ := List.length_eq_one_iff.1 hq
        obtain ⟨rfl, rfl, -⟩ := Tr.zeroB_eq hz
        rw [if_pos rfl, Tr.groupT, nfT_node (by decide), nfT_node (by decide)]
        simp only [List.map_cons, List.map_nil, List.headD_cons, ih' x (by simp)]
      rw [if_neg k7]
      by_cases k4 : k = 4
      · rw [if_pos k4, nfT_row, putTs_nf, hml, nfT_node (by rw [k4]; decide)]
        unfold nfK
        rw [if_neg (by rw [k4]; decide), if_pos k4]
      rw [if_neg k4]
      by_cases k5 : k = 5
      · subst k5
        simp only [reduceIte, Int.reduceEq, Bool.and_eq_true, beq_iff_eq] at hnb
        obtain ⟨rfl, rfl, -, -, -, rfl, -⟩ := Tr.zeroB_eq hnb.1
        rw [if_pos rfl, Tr.altT, nfT_node (by decide), nfT_node (by decide)]
        show Us.mk 5 _ _ _ _ _ = Us.mk 5 _ _ _ _ _
        rw [altTs_nf, hml]
      rw [if_neg k5]
      by_cases k6 : k = 6
      · subst k6
        simp only [reduceIte, Int.reduceEq, Bool.and_eq_true, Bool.or_eq_true, decide_eq_true_eq, beq_iff_eq] at hnb
        obtain ⟨x, rfl⟩ := List.length_eq_one_iff.1 hnb.2.1
        obtain ⟨h0, h1, hm⟩ := hnb.2.2
        have hx := ih' x (by simp)
        have ht : nfT (.mk 6 r a [x] n m z i s) = nfU (repU (unfS x) n m z) := by
          unfold nfT
          rw [unfS, if_neg (by decide), unfSs, unfSs]; rfl
        rw [if_pos rfl, ht, List.map_cons, List.map_nil, List.headD_cons]
        by_cases m0 : m = 0
        · obtain rfl : n = 0 := by omega
          rw [if_pos m0, nfT_empty, m0]; rfl
        rw [if_neg m0]
        unfold Tr.unfoldS repU
        by_cases m1 : m = -1
        · rw [if_pos m1]
          by_cases n0 : n = 0
          · rw [if_pos ⟨by omega, n0⟩, if_pos n0, nfT_rep, show repU (unfS (Tr.simpleS x)) 0 (-1) z = loopU (-2) z (unfS (Tr.simpleS x)) from rfl, nf_loop (by decide) (by decide) (by decide), nf_loop (by decide) (by decide) (by decide)]
            exact congrArg _ hx
          · rw [if_neg (fun h => n0 h.2), if_pos (by omega), if_neg n0, flat_rep, show (List.replicate (n - 1).toNat (Tr.simpleS x)).flatMap Tr.putT ++ Tr.putT (Tr.repT (Tr.simpleS x) 1 (-1) z) = (List.replicate (n - 1).toNat (Tr.simpleS x) ++ [Tr.repT (Tr.simpleS x) 1 (-1) z]).flatMap Tr.putT from by simp, nfT_row, putTs_nf, nf_cat]
            simp only [List.map_append, List.map_replicate, List.map_cons, List.map_nil]
            rw [hx, nfT_rep, show repU (unfS (Tr.simpleS x)) 1 (-1) z = catU [loopU (-3) z (unfS (Tr.simpleS x))] from rfl, nf_cat, List.map_cons, List.map_nil, nf_loop (by decide) (by decide) (by decide), nf_loop (by decide) (by decide) (by decide), List.flatMap_cons, List.flatMap_nil, List.append_nil, loop_atom (by decide) (by decide)]
            show rowU ((List.replicate (n - 1).toNat (nfT x) ++ [loopU (-3) z (nfT (Tr.simpleS x))]).flatMap putU) = _
            rw [hx]; rfl
        · rw [if_neg m1, if_neg (by omega), if_neg (by omega), if_neg (by omega), flat_rep, show (List.replicate n.toNat (Tr.simpleS x)).flatMap Tr.putT ++ Tr.putT (Tr.optS (Tr.simpleS x) z (m - n).toNat) = (List.replicate n.toNat (Tr.simpleS x) ++ [Tr.optS (Tr.simpleS x) z (m - n).toNat]).flatMap Tr.putT from by simp, nfT_row, putTs_nf, nf_cat]
          simp only [List.map_append, List.map_replicate, List.map_cons, List.map_nil]
          rw [hx, List.flatMap_append, List.flatMap_append]
          congr 2
          by_cases hlt : n < m
          · rw [if_pos hlt]
            obtain ⟨d, hd⟩ : ∃ d, (m - n).toNat = d + 1 := ⟨(m - n).toNat - 1, by omega⟩
            rw [hd, show (m - n - 1).toNat = d from by omega, nf_opt (w := unfS x) hx d]; rfl
          · rw [if_neg hlt, show (m - n).toNat = 0 from by omega, Tr.optS, nfT_empty]; rfl
      · rw [if_neg k6]
mutual
def WU : Us → Prop
  | .mk k r a i z l => (k = 4 → l ≠ [] ∧ r = [] ∧ a = 0 ∧ i = 0 ∧ z = false) ∧ (k = 1 → l = [] ∧ r = [] ∧ a = 0 ∧ i = 0 ∧ z = false) ∧ WUs l
def WUs : List Us → Prop
  | [] => True
  | x :: l => WU x ∧ WUs l
end
theorem WUs_iff : ∀ l : List Us, WUs l ↔ ∀ x ∈ l, WU x
  | [] => by simp [WUs]
  | x :: l => by rw [WUs, WUs_iff l]; simp
theorem uw_sh : ∀ u : Mean.Un, WU (shU u) → Mean.UW u := by
  intro u
  induction u using Mean.Un.ind with
  | h u ih =>
    intro h n hn
    rw [Mean.shU_eq, WU, WUs_iff] at h
    obtain ⟨h4, h1, hl⟩ := h
    rw [Mean.all_subs, List.mem_cons] at hn
    rcases hn with rfl | hn
    · refine ⟨fun k4 => ?_, fun k1 => ?_⟩
      · obtain ⟨g1, g2⟩ := h4 k4
        exact ⟨fun e => g1 (by rw [e]; rfl), g2⟩
      · obtain ⟨g1, g2⟩ := h1 k1
        exact ⟨List.map_eq_nil_iff.1 g1, g2⟩
    · rw [Mean.allU_flat] at hn
      obtain ⟨q, hq, hn⟩ := List.mem_flatMap.1 hn
      exact ih q hq (hl _ (List.mem_map_of_mem hq)) n hn
theorem wu_loop {k : Int} {z : Bool} {x : Us} (h1 : k ≠ 1) (h4 : k ≠ 4) (hx : WU x) : WU (loopU k z x) := by
  unfold loopU
  rw [WU]
  exact ⟨fun h => absurd h h4, fun h => absurd h h1, hx, trivial⟩
theorem wu_cat {l : List Us} (hl : ∀ x ∈ l, WU x) (hne : l ≠ []) : WU (catU l) := by
  unfold catU
  rw [WU, WUs_iff]
  exact ⟨fun _ => ⟨hne, rfl, rfl, rfl, rfl⟩, fun h => absurd h (by decide), hl⟩
theorem wu_opt {z : Bool} {x : Us} (hx : WU x) : ∀ n, WU (optU z x n)
  | 0 => wu_loop (by decide) (by decide) hx
  | n + 1 => wu_loop (by decide) (by decide) (wu_cat (by
      intro y hy
      simp only [List.mem_cons, List.not_mem_nil, or_false] at hy
      rcases hy with rfl | rfl
      · exact hx
      · exact wu_opt hx n) (by simp))
theorem wu_rep {x : Us} {n m : Int} {z : Bool} (hx : WU x) : WU (repU x n m z) := by
  unfold repU
  split
  · split
    · exact wu_loop (by decide) (by decide) hx
    · refine wu_cat (fun y hy => ?_) (by simp)
      rw [List.mem_append] at hy
      rcases hy with hy | hy
      · rw [(List.mem_replicate.1 hy).2]; exact hx
      · rw [List.mem_singleton.1 hy]; exact wu_loop (by decide) (by decide) hx
  · split
    · unfold emptyU
      rw [WU]
      exact ⟨fun h => absurd h (by decide), fun _ => ⟨rfl, rfl, rfl, rfl, rfl⟩, trivial⟩
    · rename_i h
      refine wu_cat (fun y hy => ?_) fun e => ?_
      · rw [List.mem_append] at hy
        rcases hy with hy | hy
        · rw [(List.mem_replicate.1 hy).2]; exact hx
        · split at hy
          · rw [List.mem_singleton.1 hy]; exact wu_opt hx _
          · cases hy
      · obtain ⟨e1, e2⟩ := List.append_eq_nil_iff.1 e
        have e3 : n.toNat = 0 := by simpa using e1
        refine h ⟨e3, fun hlt => ?_⟩
        rw [if_pos hlt] at e2
        cases e2
theorem wu_unf : ∀ t : Tr.Tr, Tr.allB t = true → WU (unfS t) := by
  intro t
  induction t using Tr.Tr.ind with
  | h t ih =>
    intro hall
    obtain ⟨hnb, hsb⟩ := (Tr.allB_iff _).1 hall
    cases t with
    | mk k r a l n m z i s =>
      have ih' : ∀ x ∈ l, WU (unfS x) := fun x hx => ih x hx (hsb x hx)
      unfold Tr.nodeB Tr.nodeF at hnb
      by_cases k6 : k = 6
      · subst k6
        simp only [reduceIte, Int.reduceEq, Bool.and_eq_true, Bool.or_eq_true, decide_eq_true_eq, beq_iff_eq] at hnb
        obtain ⟨x, rfl⟩ := List.length_eq_one_iff.1 hnb.2.1
        rw [unfS, if_neg (by decide), unfSs, unfSs]
        exact wu_rep (ih' x (by simp))
      · rw [unfS, if_pos k6, WU, WUs_iff, unfSs_map]
        refine ⟨fun k4 => ?_, fun k1 => ?_, fun y hy => ?_⟩
        · subst k4
          simp only [reduceIte, Int.reduceEq, Bool.and_eq_true, decide_eq_true_eq] at hnb
          obtain ⟨h1, h2, -, -, -, h3, -⟩ := Tr.zeroB_eq hnb.1
          refine ⟨fun e => ?_, h1, h2, h3, rfl⟩
          have := List.map_eq_nil_iff.1 e
          have h5 := hnb.2
          rw [this] at h5
          exact absurd h5 (by decide)
        · subst k1
          simp only [reduceIte, Bool.and_eq_true, beq_iff_eq] at hnb
          obtain ⟨h1, h2, -, -, -, h3, -⟩ := Tr.zeroB_eq hnb.1
          refine ⟨?_, h1, h2, h3, rfl⟩
          rw [List.length_eq_zero_iff.1 hnb.2]; rfl
        · obtain ⟨x, hx, rfl⟩ := List.mem_map.1 hy
          exact ih' x hx
theorem uw_of {u : Mean.Un} {t : Tr.Tr} (h : shU u = unfS t) (hall : Tr.allB t = true) : Mean.UW u := uw_sh u (by rw [h]; exact wu_unf t hall)
/-- A tree and its simple form have the same parses, in order (notes of one length). -/
theorem simple_out {t : List Int} {at_ pl : Nat} {nt : List Int} {u v : Mean.Un} {tr : Tr.Tr} (hall : Tr.allB tr = true) (halls : Tr.allB (Tr.simpleS tr) = true) (hpl : pl ≤ t.length) (hsu : shU u = unfS tr) (hsv : shU v = unfS (Tr.simpleS tr)) (hu : (u.all.map Mean.Un.ad).Nodup) (hv : (v.all.map Mean.Un.ad).Nodup) {a b : Mean.St} (ha : Mean.One t at_ st0 (.beg u pl nt .top) a) (hb : Mean.One t at_ st0 (.beg v pl nt .top) b) : a.out = b.out :=
  Mean.flat_out hpl hu hv (uw_of hsu hall) (uw_of hsv halls) (by rw [hsu, hsv]; exact (nf_simple tr hall).symm) ha hb
end Go.Proofs.Yteimpcjafgllpaa
namespace Go.Proofs.Yteimpcjafgllpaa
open Go.Proofs.Yteimpcjafgllpaa.Mach
namespace Mean
def cutT (N : Nat) : Task → Task
  | .beg n pl nt K => .beg n pl (nt.take N) K
  | .dcd n pl nt K => .dcd n pl (nt.take N) K
  | .go K pl nt => .go K pl (nt.take N)
def CutR (N : Nat) (s s' : St) : Prop := (∀ m, s'.met m = s.met m) ∧ s'.out = s.out.map fun p => (p.1, p.2.take N)
section
variable {t : List Int} {at_ N : Nat}
theorem rowT_cut (l : List Un) (pl : Nat) (nt : List Int) (K : Kt) : cutT N (rowT l pl nt K) = rowT l pl (nt.take N) K := by cases l <;> rfl
theorem choose_cut (n : Un) (pl : Nat) (nt : List Int) (A K : Kt) : (choose n pl nt A K).map (cutT N) = choose n pl (nt.take N) A K := by
  unfold choose
  cases n.subs with
  | nil => rfl
  | cons s l => cases n.lz <;> rfl
theorem take_set' (l : List Int) (i : Nat) (v : Int) : (l.set i v).take N = (l.take N).set i v := by
  apply List.ext_getElem?
  intro j
  rw [List.getElem?_take, List.getElem?_set, List.getElem?_set, List.getElem?_take, List.length_take]
  by_cases hj : j < N
  · rw [if_pos hj, if_pos hj]
    by_cases e : i = j
    · rw [if_pos e, if_pos e]
      by_cases h : i < l.length
      · rw [if_pos h, if_pos (by omega)]
      · rw [if_neg h, if_neg (by omega)]
    · rw [if_neg e, if_neg e]
  · rw [if_neg hj]
    by_cases e : i = j
    · rw [if_pos e, if_neg (by omega)]
    · rw [if_neg e, if_neg hj]
theorem first_cut (n : Un) (pl : Nat) (nt : List Int) (K : Kt) : (first t n pl nt K).map (cutT N) = first t n pl (nt.take N) K := by
  unfold first
  by_cases k1 : n.kind = 1
  · rw [if_pos k1, if_pos k1]; rfl
  rw [if_neg k1, if_neg k1]
  by_cases k2 : n.kind = 2
  · rw [if_pos k2, if_pos k2]; split <;> rfl
  rw [if_neg k2, if_neg k2]
  by_cases k3 : n.kind = 3
  · rw [if_pos k3, if_pos k3]; split <;> rfl
  rw [if_neg k3, if_neg k3]
  by_cases k4 : n.kind = 4
  · rw [if_pos k4, if_pos k4, List.map_cons, List.map_nil, rowT_cut]
  rw [if_neg k4, if_neg k4]
  by_cases k5 : n.kind = 5
  · rw [if_pos k5, if_pos k5, List.map_map]; rfl
  rw [if_neg k5, if_neg k5]
  by_cases k7 : n.kind = 7
  · rw [if_pos k7, if_pos k7]
    cases n.subs with
    | nil => rfl
    | cons s l => simp only [List.map_cons, List.map_nil, cutT, take_set']
  rw [if_neg k7, if_neg k7]
  by_cases m1 : n.kind = -1
  · rw [if_pos m1, if_pos m1]; exact choose_cut n pl nt K K
  rw [if_neg m1, if_neg m1]
  by_cases m2 : n.kind = -2
  · rw [if_pos m2, if_pos m2]; rfl
  rw [if_neg m2, if_neg m2]
  by_cases m3 : n.kind = -3
  · rw [if_pos m3, if_pos m3]; cases n.subs <;> rfl
  rw [if_neg m3, if_neg m3]; rfl
theorem cutR_mark {s s' : St} (h : CutR N s s') (m : Mark) : CutR N (s.mark m) (s'.mark m) := by
  refine ⟨fun x => ?_, h.2⟩
  unfold St.mark
  simp only []
  rw [h.1 x]
theorem work_cut {s s' : St} (h : CutR N s s') (k : Task) : CutR N (work t at_ s k).1 (work t at_ s' (cutT N k)).1 ∧ (work t at_ s' (cutT N k)).2 = (work t at_ s k).2.map (cutT N) := by
  cases k with
  | beg n pl nt K =>
    refine ⟨cutR_mark h _, ?_⟩
    show (if s'.met (n.ad, pl, false) = 0 then first t n pl (nt.take N) K else []) = (if s.met (n.ad, pl, false) = 0 then first t n pl nt K else []).map (cutT N)
    rw [h.1]
    split
    · exact (first_cut n pl nt K).symm
    · rfl
  | dcd n pl nt K =>
    refine ⟨cutR_mark h _, ?_⟩
    show (if s'.met (n.ad, pl, true) = 0 then choose n pl (nt.take N) (.dec n K) K else []) = (if s.met (n.ad, pl, true) = 0 then choose n pl nt (.dec n K) K else []).map (cutT N)
    rw [h.1]
    split
    · exact (choose_cut n pl nt (.dec n K) K).symm
    · rfl
  | go K pl nt =>
    cases K with
    | top =>
      refine ⟨?_, rfl⟩
      show CutR N (ended at_ s pl nt) (ended at_ s' pl (nt.take N))
      have ho : (s'.out.any fun p => p.1 == pl) = (s.out.any fun p => p.1 == pl) := by rw [h.2, List.any_map]; rfl
      unfold ended
      rw [ho]
      split
      · exact h
      · refine ⟨h.1, ?_⟩
        simp only [List.map_append, List.map_cons, List.map_nil, take_set', h.2]
    | row l K => exact ⟨h, by show [rowT l pl (nt.take N) K] = [cutT N (rowT l pl nt K)]; rw [rowT_cut]⟩
    | grp i K => exact ⟨h, by simp only [cutT, work, List.map_cons, List.map_nil, take_set']⟩
    | dec n K => exact ⟨h, rfl⟩
mutual
theorem one_cut : ∀ {s s1 : St} {k : Task}, One t at_ s k s1 → ∀ {s' : St}, CutR N s s' → ∃ s1', One t at_ s' (cutT N k) s1' ∧ CutR N s1 s1'
  | s, s1, k, .mk h, s', hr => by
    obtain ⟨h1, h2⟩ := work_cut (t := t) (at_ := at_) hr k
    obtain ⟨s1', g1, g2⟩ := many_cut h h1
    exact ⟨s1', .mk (by rw [h2]; exact g1), g2⟩
theorem many_cut : ∀ {s s1 : St} {l : List Task}, Many t at_ s l s1 → ∀ {s' : St}, CutR N s s' → ∃ s1', Many t at_ s' (l.map (cutT N)) s1' ∧ CutR N s1 s1'
  | s, _, [], .nil, s', hr => ⟨s', .nil, hr⟩
  | s, s1, k :: l, .cons h1 h2, s', hr => by
    obtain ⟨sa, g1, g2⟩ := one_cut h1 hr
    obtain ⟨sb, g3, g4⟩ := many_cut h2 g2
    exact ⟨sb, .cons g1 g3, g4⟩
end
/-- The run with fewer notes. -/
theorem cut_out {u : Un} {pl : Nat} {nt : List Int} {a b : St} (ha : One t at_ st0 (.beg u pl nt .top) a) (hb : One t at_ st0 (.beg u pl (nt.take N) .top) b) : b.out = a.out.map fun p => (p.1, p.2.take N) := by
  obtain ⟨s1, h1, h2⟩ := one_cut (N := N) ha (s' := st0) ⟨fun _ => rfl, rfl⟩
  rw [one_fun hb h1]
  exact h2.2
end
end Mean
end Go.Proofs.Yteimpcjafgllpaa
namespace Go.Proofs.Yteimpcjafgllpaa
open Go.Proofs.Yteimpcjafgllpaa.Mach
namespace Mean
def KIx (N : Nat) : Kt → Prop
  | .top => True
  | .row _ K => KIx N K
  | .grp i K => (2 * i + 1).toNat < N ∧ KIx N K
  | .dec _ K => KIx N K
def DT (N : Nat) (D : List Int) : Task → Prop
  | .beg _ _ nt K => nt.drop N = D ∧ KIx N K
  | .dcd _ _ nt K => nt.drop N = D ∧ KIx N K
  | .go K _ nt => nt.drop N = D ∧ KIx N K
section
variable {t : List Int} {at_ N : Nat} {D : List Int} {U : List Un}
theorem drop_set' {l : List Int} {i : Nat} {v : Int} (h : i < N) : (l.set i v).drop N = l.drop N := by
  apply List.ext_getElem?
  intro j
  rw [List.getElem?_drop, List.getElem?_drop, List.getElem?_set, if_neg (by omega)]
theorem dt_rowT {l : List Un} {pl : Nat} {nt : List Int} {K : Kt} (h : nt.drop N = D) (hK : KIx N K) : DT N D (rowT l pl nt K) := by
  cases l with
  | nil => exact ⟨h, hK⟩
  | cons s l => exact ⟨h, hK⟩
theorem dt_choose {n : Un} {pl : Nat} {nt : List Int} {A K : Kt} (h : nt.drop N = D) (hA : KIx N A) (hK : KIx N K) : ∀ x ∈ choose n pl nt A K, DT N D x := by
  unfold choose
  intro k hk
  cases hs : n.subs with
  | nil => rw [hs] at hk; cases hk
  | cons s l =>
    rw [hs] at hk
    simp only [] at hk
    split at hk <;> (simp only [List.mem_cons, List.not_mem_nil, or_false] at hk; rcases hk with rfl | rfl)
    · exact ⟨h, hK⟩
    · exact ⟨h, hA⟩
    · exact ⟨h, hA⟩
    · exact ⟨h, hK⟩
theorem dt_first {n : Un} (hix : n.kind = 7 → (2 * n.ix).toNat < N ∧ (2 * n.ix + 1).toNat < N) {pl : Nat} {nt : List Int} {K : Kt} (h : nt.drop N = D) (hK : KIx N K) : ∀ x ∈ first t n pl nt K, DT N D x := by
  unfold first
  intro k hk
  split at hk
  · simp only [List.mem_singleton] at hk; subst hk; exact ⟨h, hK⟩
  split at hk
  · split at hk
    · simp only [List.mem_singleton] at hk; subst hk; exact ⟨h, hK⟩
    · cases hk
  split at hk
  · split at hk
    · simp only [List.mem_singleton] at hk; subst hk; exact ⟨h, hK⟩
    · cases hk
  split at hk
  · simp only [List.mem_singleton] at hk; subst hk; exact dt_rowT h hK
  split at hk
  · obtain ⟨s, hs, rfl⟩ := List.mem_map.1 hk
    exact ⟨h, hK⟩
  split at hk
  · rename_i h7
    split at hk
    · cases hk
    · simp only [List.mem_singleton] at hk; subst hk
      exact ⟨(drop_set' (hix h7).1).trans h, (hix h7).2, hK⟩
  split at hk
  · exact dt_choose h hK hK k hk
  split at hk
  · simp only [List.mem_singleton] at hk; subst hk; exact ⟨h, hK⟩
  split at hk
  · split at hk
    · cases hk
    · simp only [List.mem_singleton] at hk; subst hk
      exact ⟨h, hK⟩
  · cases hk
theorem work_dt (hix : ∀ n ∈ U, n.kind = 7 → (2 * n.ix).toNat < N ∧ (2 * n.ix + 1).toNat < N) (hN : 2 ≤ N) {s : St} {k : Task} (hu : k.uses U t.length) (hk : DT N D k) (ho : ∀ p ∈ s.out, p.2.drop N = D) : (∀ p ∈ (work t at_ s k).1.out, p.2.drop N = D) ∧ ∀ x ∈ (work t at_ s k).2, DT N D x := by
  cases k with
  | beg n pl nt K =>
    refine ⟨ho, fun x hx => ?_⟩
    simp only [work] at hx
    split at hx
    · exact dt_first (hix n hu.1) hk.1 hk.2 x hx
    · cases hx
  | dcd n pl nt K =>
    refine ⟨ho, fun x hx => ?_⟩
    simp only [work] at hx
    split at hx
    · exact dt_choose (A := .dec n K) hk.1 hk.2 hk.2 x hx
    · cases hx
  | go K pl nt =>
    cases K with
    | top =>
      refine ⟨fun p hp => ?_, fun x hx => by cases hx⟩
      simp only [work, ended] at hp
      split at hp
      · exact ho p hp
      · rcases List.mem_append.1 hp with hp | hp
        · exact ho p hp
        · rw [List.mem_singleton] at hp; subst hp
          show ((nt.set 0 (at_ : Int)).set 1 (pl : Int)).drop N = D
          rw [drop_set' (by omega), drop_set' (by omega)]
          exact hk.1
    | row l K =>
      refine ⟨ho, fun x hx => ?_⟩
      have e : x = rowT l pl nt K := by simpa [work] using hx
      rw [e]; exact dt_rowT hk.1 hk.2
    | grp i K =>
      refine ⟨ho, fun x hx => ?_⟩
      have e : x = .go K pl (nt.set (2 * i + 1).toNat pl) := by simpa [work] using hx
      rw [e]; exact ⟨(drop_set' hk.2.1).trans hk.1, hk.2.2⟩
    | dec n K =>
      refine ⟨ho, fun x hx => ?_⟩
      have e : x = .dcd n pl nt K := by simpa [work] using hx
      rw [e]; exact hk
mutual
theorem one_dt (hU : Closed U) (hix : ∀ n ∈ U, n.kind = 7 → (2 * n.ix).toNat < N ∧ (2 * n.ix + 1).toNat < N) (hN : 2 ≤ N) : ∀ {s s1 : St} {k : Task}, One t at_ s k s1 → k.uses U t.length → DT N D k → (∀ p ∈ s.out, p.2.drop N = D) → ∀ p ∈ s1.out, p.2.drop N = D
  | s, s1, k, .mk h, hu, hk, ho => by
    obtain ⟨h1, h2⟩ := work_dt (at_ := at_) hix hN hu hk ho
    exact many_dt hU hix hN h (work_uses hU hu) h2 h1
theorem many_dt (hU : Closed U) (hix : ∀ n ∈ U, n.kind = 7 → (2 * n.ix).toNat < N ∧ (2 * n.ix + 1).toNat < N) (hN : 2 ≤ N) : ∀ {s s1 : St} {l : List Task}, Many t at_ s l s1 → (∀ k ∈ l, k.uses U t.length) → (∀ k ∈ l, DT N D k) → (∀ p ∈ s.out, p.2.drop N = D) → ∀ p ∈ s1.out, p.2.drop N = D
  | s, _, [], .nil, _, _, ho => ho
  | s, s1, k :: l, .cons h1 h2, hu, hk, ho => many_dt hU hix hN h2 (fun x hx => hu x (List.mem_cons_of_mem _ hx)) (fun x hx => hk x (List.mem_cons_of_mem _ hx)) (one_dt hU hix hN h1 (hu k List.mem_cons_self) (hk k List.mem_cons_self) ho)
end
/-- What is behind the notes of all groups stays. -/
theorem drop_out {u : Un} {pl : Nat} {nt : List Int} {a : St} (hpl : pl ≤ t.length) (hix : ∀ n ∈ u.all, n.kind = 7 → (2 * n.ix).toNat < N ∧ (2 * n.ix + 1).toNat < N) (hN : 2 ≤ N) (ha : One t at_ st0 (.beg u pl nt .top) a) : ∀ p ∈ a.out, p.2.drop N = nt.drop N :=
  one_dt (all_closed u) hix hN ha ⟨self_all u, hpl, trivial⟩ ⟨rfl, trivial⟩ (fun p hp => by cases hp)
end
end Mean
end Go.Proofs.Yteimpcjafgllpaa
namespace Go.Proofs.Yteimpcjafgllpaa
open Go.Proofs.Yteimpcjafgllpaa.Mach
mutual
def grpU : Us → List Int
  | .mk k _ _ i _ l => (if k = 7 then [i] else []) ++ grpUs l
def grpUs : List Us → List Int
  | [] => []
  | x :: l => grpU x ++ grpUs l
end
theorem grpUs_mem {i : Int} : ∀ {l : List Us}, i ∈ grpUs l ↔ ∃ x ∈ l, i ∈ grpU x
  | [] => by simp [grpUs]
  | x :: l => by rw [grpUs, List.mem_append, grpUs_mem (l := l)]; simp
theorem grpU_eq (x : Us) (h : x.kind ≠ 7) : grpU x = grpUs x.subs := by
  cases x with
  | mk k r a i z l => rw [grpU, if_neg (show k ≠ 7 from h)]; rfl
theorem grp_put {x : Us} (h : FormU x) {i : Int} : i ∈ grpUs (putU x) ↔ i ∈ grpU x := by
  rcases h with rfl | ⟨X, rfl, -, -⟩ | h
  · simp [putU, emptyU, Us.kind, grpU, grpUs]
  · rw [show putU (catU X) = X from rfl, grpU_eq (catU X) (by show (4 : Int) ≠ 7; decide)]; rfl
  · rw [putU_atom h, grpUs, grpUs, List.append_nil]
theorem grp_alt {x : Us} {i : Int} : i ∈ grpUs (altU x) ↔ i ∈ grpU x := by
  unfold altU
  split
  · rename_i h; rw [grpU_eq x (by rw [h]; decide)]
  · rw [grpUs, grpUs, List.append_nil]
theorem grp_flat {f : Us → List Us} {X : List Us} {i : Int} (h : ∀ x ∈ X, (i ∈ grpUs (f x) ↔ i ∈ grpU x)) : i ∈ grpUs (X.flatMap f) ↔ i ∈ grpUs X := by
  rw [grpUs_mem, grpUs_mem]
  constructor
  · rintro ⟨y, hy, hi⟩
    obtain ⟨x, hx, hy⟩ := List.mem_flatMap.1 hy
    exact ⟨x, hx, (h x hx).1 (grpUs_mem.2 ⟨y, hy, hi⟩)⟩
  · rintro ⟨x, hx, hi⟩
    obtain ⟨y, hy, hi⟩ := grpUs_mem.1 ((h x hx).2 hi)
    exact ⟨y, List.mem_flatMap.2 ⟨x, hx, hy⟩, hi⟩
theorem grp_row {X : List Us} {i : Int} : i ∈ grpU (rowU X) ↔ i ∈ grpUs X := by
  match X with
  | [] => simp [rowU, emptyU, grpU, grpUs]
  | [x] => rw [show rowU [x] = x from rfl, grpUs, grpUs, List.append_nil]
  | x :: y :: l => rw [show rowU (x :: y :: l) = catU (x :: y :: l) from rfl, grpU_eq _ (by show (4 : Int) ≠ 7; decide)]; rfl
/-- The flat form has the same groups. -/
theorem grp_nf {i : Int} : ∀ x : Us, WU x → (i ∈ grpU (nfU x) ↔ i ∈ grpU x) := fun x =>
  Us.rec (motive_1 := fun x => WU x → (i ∈ grpU (nfU x) ↔ i ∈ grpU x)) (motive_2 := fun l => ∀ y ∈ l, WU y → (i ∈ grpU (nfU y) ↔ i ∈ grpU y)) (fun k r a j z l ih hw => by
    rw [WU, WUs_iff] at hw
    obtain ⟨-, h1, hl⟩ := hw
    have hmap : i ∈ grpUs (l.map nfU) ↔ i ∈ grpUs l := by
      rw [grpUs_mem, grpUs_mem]
      constructor
      · rintro ⟨y, hy, hi⟩
        obtain ⟨x, hx, rfl⟩ := List.mem_map.1 hy
        exact ⟨x, hx, (ih x hx (hl x hx)).1 hi⟩
      · rintro ⟨x, hx, hi⟩
        exact ⟨_, List.mem_map_of_mem hx, (ih x hx (hl x hx)).2 hi⟩
    rw [nfU, nfUs_map]
    unfold nfK
    by_cases k1 : k = 1
    · rw [if_pos k1, (h1 k1).1, k1]; simp [emptyU, grpU, grpUs]
    rw [if_neg k1]
    by_cases k4 : k = 4
    · rw [if_pos k4, grp_row, grp_flat (fun x hx => by
        obtain ⟨y, -, rfl⟩ := List.mem_map.1 hx
        exact grp_put (nf_form y)), hmap, grpU, k4, if_neg (by decide)]; rfl
    rw [if_neg k4]
    by_cases k5 : k = 5
    · rw [if_pos k5, grpU, if_neg (by decide), List.nil_append, grp_flat (fun x hx => grp_alt), hmap, grpU, k5, if_neg (by decide)]; rfl
    · rw [if_neg k5, grpU, grpU, List.mem_append, List.mem_append, hmap]) (by simp) (fun x l hx hl => by intro y hy; rcases List.mem_cons.1 hy with rfl | hy; exact hx; exact hl y hy) x
namespace Mean
theorem grp_un {i : Int} : ∀ u : Un, i ∈ grpU (shU u) ↔ ∃ n ∈ u.all, n.kind = 7 ∧ n.ix = i := by
  intro u
  induction u using Un.ind with
  | h u ih =>
    rw [shU_eq, grpU, List.mem_append, grpUs_mem]
    constructor
    · rintro (h | ⟨x, hx, hi⟩)
      · split at h
        · rename_i h7
          exact ⟨u, self_all u, h7, (List.mem_singleton.1 h).symm⟩
        · cases h
      · obtain ⟨s, hs, rfl⟩ := List.mem_map.1 hx
        obtain ⟨n, hn, h⟩ := (ih s hs).1 hi
        exact ⟨n, by rw [all_subs]; exact List.mem_cons_of_mem _ ((all_in_allU hs).subset hn), h⟩
    · rintro ⟨n, hn, h7, rfl⟩
      rw [all_subs, List.mem_cons] at hn
      rcases hn with rfl | hn
      · exact .inl (by rw [if_pos h7]; exact List.mem_singleton.2 rfl)
      · rw [allU_flat] at hn
        obtain ⟨q, hq, hn⟩ := List.mem_flatMap.1 hn
        exact .inr ⟨_, List.mem_map_of_mem hq, (ih q hq).2 ⟨n, hn, h7, rfl⟩⟩
end Mean
end Go.Proofs.Yteimpcjafgllpaa
namespace Go.Proofs.Yteimpcjafgllpaa
open Go.Proofs.Yteimpcjafgllpaa.Mach
theorem means_plain {t : List Int} {at_ : Nat} {u v : Mean.Un} {tr : Tr.Tr} (hall : Tr.allB tr = true) (halls : Tr.allB (Tr.simpleS tr) = true) (hat : at_ ≤ t.length) (hsu : shU u = unfS tr) (hsv : shU v = unfS (Tr.simpleS tr)) (hu : (u.all.map Mean.Un.ad).Nodup) (hv : (v.all.map Mean.Un.ad).Nodup) {N1 N2 : Nat} (h1 : N1 = 2 + 2 * (Tr.greatest tr).toNat) (h2 : N2 = 2 + 2 * (Tr.greatest (Tr.simpleS tr)).toNat) {a b : Mean.St} (ha : Mean.One t at_ st0 (.beg u at_ (List.replicate N1 (-1)) .top) a) (hb : Mean.One t at_ st0 (.beg v at_ (List.replicate N2 (-1)) .top) b) :
    (a.out.map fun p => (p.1, p.2.take (min N1 N2))) = (b.out.map fun p => (p.1, p.2.take (min N1 N2))) ∧ (∀ p ∈ a.out, p.2.drop (min N1 N2) = List.replicate (N1 - min N1 N2) (-1)) ∧ ∀ p ∈ b.out, p.2.drop (min N1 N2) = List.replicate (N2 - min N1 N2) (-1) := by
  have hgu := all_ok u (g := Tr.greatest tr) (by rw [hsu]; exact unf_ok tr hall)
  have hgv := all_ok v (g := Tr.greatest (Tr.simpleS tr)) (by rw [hsv]; exact unf_ok (Tr.simpleS tr) halls)
  have hgr : ∀ i, i ∈ grpU (shU u) ↔ i ∈ grpU (shU v) := fun i => by
    rw [hsu, hsv, ← grp_nf _ (wu_unf tr hall), ← grp_nf _ (wu_unf _ halls)]
    show i ∈ grpU (nfT tr) ↔ i ∈ grpU (nfT (Tr.simpleS tr))
    rw [nf_simple tr hall]
  have fit : ∀ i, i ∈ grpU (shU u) → (2 * i).toNat < min N1 N2 ∧ (2 * i + 1).toNat < min N1 N2 := fun i hi => by
    obtain ⟨n, hn, h7, rfl⟩ := (Mean.grp_un u).1 hi
    obtain ⟨m, hm, h7', e⟩ := (Mean.grp_un v).1 ((hgr _).1 hi)
    have e1 := (hgu n hn).2.2.2.1 h7
    have e2 := (hgv m hm).2.2.2.1 h7'
    omega
  have htk : ∀ M, min N1 N2 ≤ M → (List.replicate M (-1 : Int)).take (min N1 N2) = List.replicate (min N1 N2) (-1) := fun M hM => by rw [List.take_replicate, Nat.min_eq_left hM]
  obtain ⟨a', ha'⟩ := Mean.run_ex (t := t) (at_ := at_) (nt := List.replicate (min N1 N2) (-1)) u hat
  obtain ⟨b', hb'⟩ := Mean.run_ex (t := t) (at_ := at_) (nt := List.replicate (min N1 N2) (-1)) v hat
  have e1 := Mean.cut_out (N := min N1 N2) ha (by rw [htk N1 (Nat.min_le_left _ _)]; exact ha')
  have e2 := Mean.cut_out (N := min N1 N2) hb (by rw [htk N2 (Nat.min_le_right _ _)]; exact hb')
  refine ⟨by rw [← e1, ← e2]; exact simple_out hall halls hat hsu hsv hu hv ha' hb', fun p hp => ?_, fun p hp => ?_⟩
  · rw [Mean.drop_out hat (fun n hn h7 => fit n.ix ((Mean.grp_un u).2 ⟨n, hn, h7, rfl⟩)) (by omega) ha p hp, List.drop_replicate]
  · rw [Mean.drop_out hat (fun n hn h7 => fit n.ix ((hgr _).2 ((Mean.grp_un v).2 ⟨n, hn, h7, rfl⟩))) (by omega) hb p hp, List.drop_replicate]
end Go.Proofs.Yteimpcjafgllpaa
