/- What is right of an unfolded tree's nodes. No program here. -/
import Derived.Handy
import Derived.BigQuiet
import Derived.Deep.QuietTactic
import Derived.Test.YteimpcjafgllpaaQ01
import Derived.Test.YteimpcjafgllpaaQ03
import Derived.Test.YteimpcjafgllpaaQ06
import Derived.Test.YteimpcjafgllpaaQ08
import Derived.Test.YteimpcjafgllpaaQ13
namespace Go.Proofs.Yteimpcjafgllpaa
open Go.RowKit Go.Proofs.Yteimpcjafgllpaa.Tr
/-- A node of an unfolded tree, those below it apart. -/
def nodeOk (g : Int) (k : Int) (r : List (Int × Int)) (a i : Int) (n : Nat) : Prop :=
  (k = 1 ∨ k = 2 ∨ k = 3 ∨ k = 4 ∨ k = 5 ∨ k = 7 ∨ k = -1 ∨ k = -2 ∨ k = -3) ∧ (k = 2 → rightB r = true) ∧ (k = 3 → ∃ j : Nat, j < 6 ∧ a = ((2 ^ j : Nat) : Int)) ∧ (k = 7 → 0 ≤ i ∧ i ≤ g) ∧ (k = 7 ∨ k = -1 ∨ k = -2 ∨ k = -3 → 0 < n)
mutual
def okS (g : Int) : Us → Prop
  | .mk k r a i _ l => nodeOk g k r a i l.length ∧ okSs g l
def okSs (g : Int) : List Us → Prop
  | [] => True
  | u :: l => okS g u ∧ okSs g l
end
theorem okSs_iff {g : Int} : ∀ l : List Us, okSs g l ↔ ∀ u ∈ l, okS g u
  | [] => by simp [okSs]
  | u :: l => by rw [okSs, okSs_iff l]; simp
theorem nodeOk.mono {g g' k a i : Int} {r : List (Int × Int)} {n : Nat} (h : nodeOk g k r a i n) (hg : g ≤ g') : nodeOk g' k r a i n :=
  ⟨h.1, h.2.1, h.2.2.1, fun e => ⟨(h.2.2.2.1 e).1, Int.le_trans (h.2.2.2.1 e).2 hg⟩, h.2.2.2.2⟩
mutual
theorem okS_mono {g g' : Int} (hg : g ≤ g') : ∀ u : Us, okS g u → okS g' u
  | .mk _ _ _ _ _ l, h => ⟨h.1.mono hg, okSs_mono hg l h.2⟩
theorem okSs_mono {g g' : Int} (hg : g ≤ g') : ∀ l : List Us, okSs g l → okSs g' l
  | [], _ => trivial
  | u :: l, h => ⟨okS_mono hg u h.1, okSs_mono hg l h.2⟩
end
section
variable {g : Int} {x : Us}
theorem empty_ok : okS g emptyU := ⟨⟨.inl rfl, by simp, by simp, by simp, by simp⟩, trivial⟩
theorem loop_ok {k : Int} {z : Bool} (hk : k = -1 ∨ k = -2 ∨ k = -3) (h : okS g x) : okS g (loopU k z x) := by
  refine ⟨⟨by omega, fun e => by omega, fun e => by omega, fun e => by omega, fun _ => by simp⟩, h, trivial⟩
theorem cat_ok {l : List Us} (h : ∀ u ∈ l, okS g u) : okS g (catU l) := ⟨⟨by omega, fun e => by omega, fun e => by omega, fun e => by omega, fun e => by omega⟩, (okSs_iff l).2 h⟩
theorem opt_ok {z : Bool} (h : okS g x) : ∀ n : Nat, okS g (optU z x n)
  | 0 => loop_ok (.inl rfl) h
  | n + 1 => loop_ok (.inl rfl) (cat_ok fun u hu => by
    simp only [List.mem_cons, List.not_mem_nil, or_false] at hu
    rcases hu with rfl | rfl
    · exact h
    · exact opt_ok h n)
theorem rep_ok {n m : Int} {z : Bool} (h : okS g x) : okS g (repU x n m z) := by
  unfold repU
  split
  · split
    · exact loop_ok (.inr (.inl rfl)) h
    · refine cat_ok fun u hu => ?_
      rcases List.mem_append.1 hu with hu | hu
      · rw [(List.mem_replicate.1 hu).2]; exact h
      · simp only [List.mem_singleton] at hu
        rw [hu]; exact loop_ok (.inr (.inr rfl)) h
  · split
    · exact empty_ok
    · refine cat_ok fun u hu => ?_
      rcases List.mem_append.1 hu with hu | hu
      · rw [(List.mem_replicate.1 hu).2]; exact h
      · split at hu
        · simp only [List.mem_singleton] at hu
          rw [hu]; exact opt_ok h _
        · cases hu
end
theorem assert_pow {a : Int} (h : assertB a = true) : ∃ j : Nat, j < 6 ∧ a = ((2 ^ j : Nat) : Int) := by
  unfold assertB at h
  simp only [Bool.or_eq_true, beq_iff_eq] at h
  rcases h with ((((h | h) | h) | h) | h) | h
  · exact ⟨0, by decide, by rw [h]; rfl⟩
  · exact ⟨1, by decide, by rw [h]; rfl⟩
  · exact ⟨2, by decide, by rw [h]; rfl⟩
  · exact ⟨3, by decide, by rw [h]; rfl⟩
  · exact ⟨4, by decide, by rw [h]; rfl⟩
  · exact ⟨5, by decide, by rw [h]; rfl⟩
theorem node_ok {k : Int} {r : List (Int × Int)} {a n m : Int} {z : Bool} {i g : Int} {s : ByteArray} {q : Nat} (h : nodeF k r a q n m z i s = true) (hk : k ≠ 6) (hg : i ≤ g) : nodeOk g k r a i q := by
  unfold nodeF at h
  by_cases k1 : k = 1
  · subst k1; exact ⟨by omega, fun e => by omega, fun e => by omega, fun e => by omega, fun e => by omega⟩
  rw [if_neg k1] at h
  by_cases k2 : k = 2
  · subst k2
    simp only [reduceIte, Bool.and_eq_true] at h
    exact ⟨by omega, fun _ => h.2.2, fun e => by omega, fun e => by omega, fun e => by omega⟩
  rw [if_neg k2] at h
  by_cases k3 : k = 3
  · subst k3
    simp only [reduceIte, Bool.and_eq_true] at h
    exact ⟨by omega, fun e => by omega, fun _ => assert_pow h.2.2, fun e => by omega, fun e => by omega⟩
  rw [if_neg k3] at h
  by_cases k4 : k = 4
  · subst k4; exact ⟨by omega, fun e => by omega, fun e => by omega, fun e => by omega, fun e => by omega⟩
  rw [if_neg k4] at h
  by_cases k5 : k = 5
  · subst k5; exact ⟨by omega, fun e => by omega, fun e => by omega, fun e => by omega, fun e => by omega⟩
  rw [if_neg k5, if_neg hk] at h
  by_cases k7 : k = 7
  · subst k7
    simp only [reduceIte, Bool.and_eq_true, beq_iff_eq, decide_eq_true_eq] at h
    exact ⟨by omega, fun e => by omega, fun e => by omega, fun _ => ⟨by omega, hg⟩, fun _ => by omega⟩
  · rw [if_neg k7] at h; cases h
mutual
theorem unf_ok : ∀ t : Tr.Tr, allB t = true → okS (greatest t) (unfS t)
  | .mk k r a l n m z i s, h => by
    obtain ⟨hnb, hsub⟩ := (allB_iff _).1 h
    have hs := unfs_ok l hsub
    have hge := greatests_ge l i
    have hall : ∀ u ∈ unfSs l, okS (greatests l i) u := fun u hu => by
      rw [unfSs_map] at hu
      obtain ⟨v, hv, rfl⟩ := List.mem_map.1 hu
      exact okS_mono (hge.2 v hv) _ (hs v hv)
    rw [unfS, greatest]
    split
    · rename_i hk
      refine ⟨?_, (okSs_iff _).2 hall⟩
      rw [show (unfSs l).length = l.length from by rw [unfSs_map, List.length_map]]
      exact node_ok hnb hk hge.1
    · refine rep_ok ?_
      cases hx : unfSs l with
      | nil => exact empty_ok
      | cons x l' => exact hall x (by rw [hx]; simp)
theorem unfs_ok : ∀ l : List Tr.Tr, (∀ u ∈ l, allB u = true) → ∀ u ∈ l, okS (greatest u) (unfS u)
  | [], _ => fun u hu => by cases hu
  | t :: l, h => fun u hu => by
    rcases List.mem_cons.1 hu with e | hu
    · rw [e]; exact unf_ok t (h t List.mem_cons_self)
    · exact unfs_ok l (fun v hv => h v (List.mem_cons_of_mem _ hv)) u hu
end
mutual
/-- All nodes of a tree are right. -/
theorem all_ok {g : Int} : ∀ u : Mean.Un, okS g (shU u) → ∀ n ∈ u.all, nodeOk g n.kind n.rng n.ast n.ix n.subs.length
  | .mk ad k r a i z l, h => fun n hn => by
    rw [Mean.Un.all] at hn
    rw [shU] at h
    rcases List.mem_cons.1 hn with rfl | hn
    · have := h.1
      rwa [shUs_map, List.length_map] at this
    · exact alls_ok l h.2 n hn
theorem alls_ok {g : Int} : ∀ l : List Mean.Un, okSs g (shUs l) → ∀ n ∈ Mean.allU l, nodeOk g n.kind n.rng n.ast n.ix n.subs.length
  | [], _ => fun n hn => by rw [Mean.allU] at hn; cases hn
  | u :: l, h => fun n hn => by
    rw [Mean.allU] at hn
    rw [shUs] at h
    rcases List.mem_append.1 hn with hn | hn
    · exact all_ok u h.1 n hn
    · exact alls_ok l h.2 n hn
end
mutual
def szU : Us → Nat
  | .mk _ _ _ _ _ l => szUs l + 1
def szUs : List Us → Nat
  | [] => 0
  | u :: l => szU u + szUs l
end
mutual
theorem all_len : ∀ u : Mean.Un, u.all.length = szU (shU u)
  | .mk _ _ _ _ _ _ l => by rw [Mean.Un.all, List.length_cons, shU, szU, alls_len l]
theorem alls_len : ∀ l : List Mean.Un, (Mean.allU l).length = szUs (shUs l)
  | [] => rfl
  | u :: l => by rw [Mean.allU, List.length_append, shUs, szUs, all_len u, alls_len l]
end
end Go.Proofs.Yteimpcjafgllpaa
namespace Go.Proofs.Yteimpcjafgllpaa
open Go.Proofs.Yteimpcjafgllpaa.Tr Go.Proofs.Yteimpcjafgllpaa.Mach
/-- So often. -/
def It (R : Nat → Nat → Prop) : Nat → Nat → Nat → Prop
  | 0, i, j => i = j
  | q + 1, i, j => ∃ k, R i k ∧ It R q k j
theorem It.add {R : Nat → Nat → Prop} : ∀ {p q i j : Nat}, It R (p + q) i j ↔ ∃ k, It R p i k ∧ It R q k j
  | 0, q, i, j => by rw [Nat.zero_add]; exact ⟨fun h => ⟨i, rfl, h⟩, fun ⟨k, h1, h2⟩ => by cases (show i = k from h1); exact h2⟩
  | p + 1, q, i, j => by
    rw [show p + 1 + q = (p + q) + 1 from by omega]
    constructor
    · rintro ⟨k, h1, h2⟩
      obtain ⟨k2, h3, h4⟩ := It.add.1 h2
      exact ⟨k2, ⟨k, h1, h3⟩, h4⟩
    · rintro ⟨k2, ⟨k, h1, h3⟩, h4⟩
      exact ⟨k, h1, It.add.2 ⟨k2, h3, h4⟩⟩
theorem It.congr {R R' : Nat → Nat → Prop} (h : ∀ i j, R i j ↔ R' i j) : ∀ {q i j : Nat}, It R q i j ↔ It R' q i j
  | 0, _, _ => Iff.rfl
  | q + 1, i, j => ⟨fun ⟨k, h1, h2⟩ => ⟨k, (h _ _).1 h1, (It.congr h).1 h2⟩, fun ⟨k, h1, h2⟩ => ⟨k, (h _ _).2 h1, (It.congr h).2 h2⟩⟩
end Go.Proofs.Yteimpcjafgllpaa
namespace Go.Proofs.Yteimpcjafgllpaa
open Go.RowKit Go.Proofs.Yteimpcjafgllpaa.Tr
theorem sizes_take {l : List Ta} {i : Nat} {t : Ta} (h : l[i]? = some t) : sizes (trs (l.take (i + 1))) = sizes (trs (l.take i)) + size t.tr := by
  rw [List.take_add_one, h, trs_map, trs_map, List.map_append]
  have : ∀ a b : List Tr, sizes (a ++ b) = sizes a + sizes b := by
    intro a b
    induction a with
    | nil => simp [sizes]
    | cons x a ih => rw [List.cons_append, sizes, sizes, ih]; omega
  rw [this]; simp [sizes]
theorem sizes_take_le (l : List Ta) (i : Nat) : sizes (trs (l.take i)) ≤ sizes (trs l) := by
  have : ∀ a b : List Tr, sizes (a ++ b) = sizes a + sizes b := by
    intro a b
    induction a with
    | nil => simp [sizes]
    | cons x a ih => rw [List.cons_append, sizes, sizes, ih]; omega
  have e : sizes (trs l) = sizes (trs (l.take i)) + sizes (trs (l.drop i)) := by
    rw [trs_map, trs_map, trs_map, ← this, ← List.map_append, List.take_append_drop]
  omega
theorem Ta.tr_size (k : Int) (r : List (Int × Int)) (ra : Option Addr) (rc : Nat) (a : Int) (l : List Ta) (sa : Option Addr) (sc : Nat) (mn mx : Int) (z : Bool) (i : Int) (s : ByteArray) : size (Ta.mk k r ra rc a l sa sc mn mx z i s).tr = sizes (trs l) + 1 := by
  rw [Ta.tr, size]
/-- The cells of a list's member. -/
theorem RdA.node {w : World} {S : Nat → Prop} {b off c : Nat} {l : List Ta} {j : Nat} {t : Ta} (h : RdA w S 9 (some ⟨b, off, none⟩) l.length c (rowT l)) (ht : l[j]? = some t) {q : Nat} (hq : q < 9) : w.cell? ⟨b, off + (j * 9 + q), none⟩ = t.vals[q]? := by
  have hl : j < l.length := (List.getElem?_eq_some_iff.1 ht).1
  obtain ⟨b', off', e, _, hc⟩ := h.2.2.2.2 (by omega)
  simp only [Option.some.injEq, Addr.mk.injEq, and_true] at e
  obtain ⟨rfl, rfl⟩ := e
  have hg := rowT_get l j q t ht hq
  have hv : q < t.vals.length := by rw [Ta.vals_length]; exact hq
  rw [List.getElem?_eq_getElem hv] at hg ⊢
  exact hc _ _ hg
theorem ar_end {q left : Int} {s0 n sz : Nat} (hq : q = max (left - 1 - (s0 : Int)) (-1)) (hsz : sz = n + 1) (hle : s0 ≤ n) (h : q < 0 ∨ s0 = n) : q = max (left - (sz : Int)) (-1) := by omega
theorem ar_great {q left : Int} {s1 s0 d : Nat} (hq : q = max (left - 1 - (s0 : Int)) (-1)) (hs : s1 = s0 + d) (h0 : 0 ≤ q) : max (q - (d : Int)) (-1) = max (left - 1 - (s1 : Int)) (-1) := by omega
set_option maxRecDepth 100000 in
set_option maxHeartbeats 1000000 in
theorem great_any : ∀ (t : Ta) (S : Nat → Prop) (w : World) (left : Int), RT w S t → (∀ b, S b → b < w.heap.size) → 0 ≤ left → left ≤ 4194304 →
    Calls Try.prog 11 #[t.val, .int .i64 left] w fun e w' => e = .returned (.int .i64 (max (left - size t.tr) (-1))) ∧ Below w.heap.size w w' := by
  intro t
  induction t using Ta.ind with
  | h t ih =>
    intro S w left h hS h0 h1
    cases t with
    | mk k r ra rc ast l sa sc mn mx z ix nm =>
      obtain ⟨_, hN, hL⟩ := h.parts
      have hsz := Ta.tr_size k r ra rc ast l sa sc mn mx z ix nm
      have IH := Lib.hid ih
      have HN := Lib.hid hN
      have HL := Lib.hid hL
      have HS := Lib.hid hS
      have HSZ := Lib.hid hsz
      clear ih hL hS hsz h
      simp only [Ta.val, Ta.vals]
      have hb0 : Below w.heap.size w (w.alloc (.cells #[.int .i64 k, .slice ra r.length rc, .int .i64 ast, .slice sa l.length sc, .int .i64 mn, .int .i64 mx, .bool z, .int .i64 ix, .string nm] 25)) := (Below.refl _ _).alloc (Nat.le_refl _) _
      have hbl := Blk.new w 25 [.int .i64 k, .slice ra r.length rc, .int .i64 ast, .slice sa l.length sc, .int .i64 mn, .int .i64 mx, .bool z, .int .i64 ix, .string nm]
      have hsc := hN.1
      have hsc2 := hN.2.1
      have HB0 := Lib.hid hb0
      have HBL := Lib.hid hbl
      clear hb0 hbl hN
      go_enter Try.func11, Try.ntmps11
      go_wp2_with fail
      generalize w.alloc (.cells #[.int .i64 k, .slice ra r.length rc, .int .i64 ast, .slice sa l.length sc, .int .i64 mn, .int .i64 mx, .bool z, .int .i64 ix, .string nm] 25) = w1 at *
      go_loopw [1, 5] (fun lv iv wr => ∃ (i : Nat) (q : Int), i ≤ l.length ∧ iv = .int .i64 (i : Int) ∧ lv = .int .i64 q ∧ q = max (left - 1 - sizes (trs (l.take i))) (-1) ∧ Below w1.heap.size w1 wr) (fun _ iv _ => l.length - (intOf iv).toNat)
      case atStart => exact ⟨0, left - 1, Nat.zero_le _, rfl, rfl, by simp [trs, sizes]; omega, Below.refl _ _⟩
      case round =>
        obtain ⟨i, q, hi, rfl, rfl, hq, hb⟩ := hrel
        have HB := Lib.hid hb
        have HQ := Lib.hid hq
        have r3 : wr.cell? ⟨w.heap.size, 3, none⟩ = some (.slice sa l.length sc) := (HBL.out.below hb HBL.out.lt).cell 3
        have r9 := (HBL.out.below hb HBL.out.lt).lt
        have hle := sizes_take_le l i
        have HLE := Lib.hid hle
        clear hb
        by_cases hlt : i < l.length
        · have hlt2 : (i : Int) < (l.length : Int) := by omega
          by_cases hq0 : 0 ≤ q
          · have hqb : q ≤ 4194304 := by omega
            clear hq hle
            obtain ⟨b, off, rfl, hSb, _⟩ := HN.out.2.2.2.2 (by omega)
            obtain ⟨u, hu⟩ : ∃ u, l[i]? = some u := ⟨_, List.getElem?_eq_getElem hlt⟩
            have hum : u ∈ l := List.mem_of_getElem? hu
            have hbb := HS.out b hSb
            have hcell : ∀ j, j < 9 → wr.cell? ⟨b, off + i * 9 + j, none⟩ = u.vals[j]? := fun j hj => by
              rw [Nat.add_assoc]
              rw [← HN.out.node hu hj]
              exact ((HB0.out.trans (HB.out.mono HB0.out.size)).cell (p := ⟨b, off + (i * 9 + j), none⟩) hbb)
            have hin := (IH.out u hum S wr q ((HL.out u hum).below HS.out (HB0.out.trans (HB.out.mono HB0.out.size))) (fun b hb => Nat.lt_of_lt_of_le (HS.out b hb) (Nat.le_trans HB0.out.size HB.out.size)) hq0 hqb)
            have hst := sizes_take hu
            cases u with
            | mk k' r' ra' rc' a' l' sa' sc' n' m' z' i' s' =>
            simp only [Ta.vals] at hcell
            simp only [Ta.val, Ta.vals] at hin
            have c0 := hcell 0 (by omega)
            have c1 := hcell 1 (by omega)
            have c2 := hcell 2 (by omega)
            have c3 := hcell 3 (by omega)
            have c4 := hcell 4 (by omega)
            have c5 := hcell 5 (by omega)
            have c6 := hcell 6 (by omega)
            have c7 := hcell 7 (by omega)
            have c8 := hcell 8 (by omega)
            simp only [List.getElem?_cons_zero, List.getElem?_cons_succ, Nat.add_zero] at c0 c1 c2 c3 c4 c5 c6 c7 c8
            have HIN := Lib.hid hin
            have HST := Lib.hid hst
            clear hin hst hcell hu
            go_wp2_with (go_at_call 11; refine HIN.out.mono ?_; rintro e w2 ⟨rfl, hb2⟩; have HB2 := Lib.hid hb2; clear hb2; simp only [])
            go_roundw
            case rel =>
              refine ⟨i + 1, _, by omega, by go_num, rfl, ?_, HB.out.trans (HB2.out.mono HB.out.size)⟩
              exact ar_great HQ.out HST.out hq0
            case measure => simp [intOf]; omega
          · have hq1 : ¬ (0 ≤ q) := hq0
            clear hq
            go_wp2_with fail
            go_ret
            exact ⟨congrArg (fun z => Ending.returned (Value.int .i64 z)) (ar_end HQ.out HSZ.out HLE.out (.inl (by omega))), HB0.out.trans (HB.out.mono HB0.out.size)⟩
        · obtain rfl : i = l.length := by omega
          have hlt2 : ¬ ((l.length : Int) < (l.length : Int)) := by omega
          clear hq
          go_wp2_with fail
          go_ret
          exact ⟨congrArg (fun z => Ending.returned (Value.int .i64 z)) (ar_end HQ.out HSZ.out HLE.out (.inr (by rw [List.take_length]))), HB0.out.trans (HB.out.mono HB0.out.size)⟩
set_option maxHeartbeats 1000000 in
/-- Has a tree more parts than the statements ask of? -/
theorem deep_any (t : Ta) (S : Nat → Prop) (w : World) (h : RT w S t) (hS : ∀ b, S b → b < w.heap.size) :
    Calls Try.prog 4 #[t.val] w fun e w' => e = .returned (.bool (decide (4194304 < size t.tr))) ∧ Below w.heap.size w w' := by
  have hb0 : Below w.heap.size w (w.alloc (.cells t.vals.toArray 25)) := (Below.refl _ _).alloc (Nat.le_refl _) _
  have HB0 := Lib.hid hb0
  have HG := Lib.hid (great_any t S (w.alloc (.cells t.vals.toArray 25)) 4194304 (h.below hS hb0) (fun b hb => Nat.lt_of_lt_of_le (hS b hb) hb0.size) (by decide) (by decide))
  have hd : decide (max (4194304 - (size t.tr : Int)) (-1) < 0) = decide (4194304 < size t.tr) := by rw [decide_eq_decide]; omega
  have HD := Lib.hid hd
  clear h hS hd hb0
  cases t with
  | mk k r ra rc ast l sa sc mn mx z ix nm =>
  generalize size (Ta.mk k r ra rc ast l sa sc mn mx z ix nm).tr = q at *
  simp only [Ta.val, Ta.vals] at HG HB0 ⊢
  go_enter Try.func4, Try.ntmps4
  go_wp2_with (go_at_call 11; refine HG.out.mono ?_; rintro e w2 ⟨rfl, hb2⟩; have HB2 := Lib.hid hb2; clear hb2; simp only [])
  go_ret
  exact ⟨ret_bool (by first | exact HD.out | simpa using HD.out), HB0.out.trans (HB2.out.mono HB0.out.size)⟩
end Go.Proofs.Yteimpcjafgllpaa
namespace Go.Proofs.Yteimpcjafgllpaa
open Go.RowKit Go.Proofs.Yteimpcjafgllpaa.Tr
mutual
/-- How many nodes the unfolded tree has. -/
def uz : Tr.Tr → Nat
  | .mk k _ _ l n m _ _ _ => if k ≠ 6 then uzs l + 1 else if m = -1 then max n.toNat 1 * uzs l + 1 else max 1 (n.toNat * uzs l + (m - n).toNat * (1 + uzs l))
def uzs : List Tr.Tr → Nat
  | [] => 0
  | t :: l => uz t + uzs l
end
theorem uzs_append : ∀ a b : List Tr.Tr, uzs (a ++ b) = uzs a + uzs b
  | [], b => by simp [uzs]
  | t :: a, b => by rw [List.cons_append, uzs, uzs, uzs_append a b]; omega
theorem uzs_snoc {l : List Ta} {i : Nat} {u : Ta} (hu : l[i]? = some u) : uzs (trs (l.take (i + 1))) = uzs (trs (l.take i)) + uz u.tr := by
  rw [List.take_add_one, hu, trs_map, trs_map, List.map_append, uzs_append]
  simp [uzs]
theorem mul_sat {a N : Nat} : min (a * min N 2001 + 1) 2001 = min (a * N + 1) 2001 := by
  by_cases h : N ≤ 2001
  · rw [show min N 2001 = N from by omega]
  · rw [show min N 2001 = 2001 from by omega]
    rcases Nat.eq_zero_or_pos a with rfl | ha
    · simp
    · have h1 : 2001 ≤ a * 2001 := Nat.le_mul_of_pos_left _ ha
      have h2 : 2001 ≤ a * N := Nat.le_trans (by omega) (Nat.le_mul_of_pos_left N ha)
      omega
theorem mul_sat2 {a b N : Nat} : min (max 1 (a * min N 2001 + b * (1 + min N 2001))) 2001 = min (max 1 (a * N + b * (1 + N))) 2001 := by
  by_cases h : N ≤ 2001
  · rw [show min N 2001 = N from by omega]
  · rw [show min N 2001 = 2001 from by omega]
    by_cases hab : a = 0 ∧ b = 0
    · simp only [hab.1, hab.2, Nat.zero_mul]
    · have h1 : 2001 ≤ a * 2001 + b * (1 + 2001) := by
        rcases Nat.eq_zero_or_pos a with rfl | ha
        · have hb : 0 < b := by omega
          rw [Nat.zero_mul, Nat.zero_add]
          exact Nat.le_trans (by decide) (Nat.le_mul_of_pos_left (1 + 2001) hb)
        · exact Nat.le_trans (Nat.le_mul_of_pos_left 2001 ha) (Nat.le_add_right _ _)
      have h2 : 2001 ≤ a * N + b * (1 + N) := by
        have e1 : a * 2001 ≤ a * N := Nat.mul_le_mul_left _ (by omega)
        have e2 : b * (1 + 2001) ≤ b * (1 + N) := Nat.mul_le_mul_left _ (by omega)
        omega
      omega
set_option maxRecDepth 100000 in
set_option maxHeartbeats 1000000 in
theorem msize_any : ∀ (t : Ta) (S : Nat → Prop) (w : World), RT w S t → allB t.tr = true → (∀ b, S b → b < w.heap.size) →
    Calls Try.prog 22 #[t.val] w fun e w' => e = .returned (.int .i64 ((min (uz t.tr) 2001 : Nat) : Int)) ∧ Below w.heap.size w w' := by
  intro t
  induction t using Ta.ind with
  | h t ih =>
    intro S w h hall hS
    cases t with
    | mk k r ra rc ast l sa sc mn mx z ix nm =>
      obtain ⟨⟨-, -, hll, -⟩, hN, hL⟩ := h.parts
      have IH := Lib.hid ih
      have HN := Lib.hid hN
      have HL := Lib.hid hL
      have HS := Lib.hid hS
      clear ih hL hS h
      obtain ⟨hnb, hsb⟩ := (allB_iff _).1 hall
      rw [Ta.tr_subs] at hsb
      have HSB := Lib.hid (show ∀ u ∈ l, allB u.tr = true from fun u hu => hsb _ (List.mem_map.2 ⟨u, hu, rfl⟩))
      have HNB := Lib.hid hnb
      clear hnb hsb hall
      obtain ⟨T, hT⟩ : ∃ T, T = min (uz (Ta.mk k r ra rc ast l sa sc mn mx z ix nm).tr) 2001 := ⟨_, rfl⟩
      rw [← hT]
      have HT := Lib.hid hT
      clear hT
      simp only [Ta.val, Ta.vals]
      have hb0 : Below w.heap.size w (w.alloc (.cells #[.int .i64 k, .slice ra r.length rc, .int .i64 ast, .slice sa l.length sc, .int .i64 mn, .int .i64 mx, .bool z, .int .i64 ix, .string nm] 25)) := (Below.refl _ _).alloc (Nat.le_refl _) _
      have hbl := Blk.new w 25 [.int .i64 k, .slice ra r.length rc, .int .i64 ast, .slice sa l.length sc, .int .i64 mn, .int .i64 mx, .bool z, .int .i64 ix, .string nm]
      have hsc := hN.1
      have hsc2 := hN.2.1
      have HB0 := Lib.hid hb0
      have HBL := Lib.hid hbl
      clear hb0 hbl hN
      have k0 : (w.alloc (.cells #[.int .i64 k, .slice ra r.length rc, .int .i64 ast, .slice sa l.length sc, .int .i64 mn, .int .i64 mx, .bool z, .int .i64 ix, .string nm] 25)).cell? ⟨w.heap.size, 0, none⟩ = some (.int .i64 k) := HBL.out.cell 0
      have k4 : (w.alloc (.cells #[.int .i64 k, .slice ra r.length rc, .int .i64 ast, .slice sa l.length sc, .int .i64 mn, .int .i64 mx, .bool z, .int .i64 ix, .string nm] 25)).cell? ⟨w.heap.size, 4, none⟩ = some (.int .i64 mn) := HBL.out.cell 4
      have k5 : (w.alloc (.cells #[.int .i64 k, .slice ra r.length rc, .int .i64 ast, .slice sa l.length sc, .int .i64 mn, .int .i64 mx, .bool z, .int .i64 ix, .string nm] 25)).cell? ⟨w.heap.size, 5, none⟩ = some (.int .i64 mx) := HBL.out.cell 5
      have k3 : (w.alloc (.cells #[.int .i64 k, .slice ra r.length rc, .int .i64 ast, .slice sa l.length sc, .int .i64 mn, .int .i64 mx, .bool z, .int .i64 ix, .string nm] 25)).cell? ⟨w.heap.size, 3, none⟩ = some (.slice sa l.length sc) := HBL.out.cell 3
      go_enter Try.func22, Try.ntmps22
      go_wp2_with fail
      generalize w.alloc (.cells #[.int .i64 k, .slice ra r.length rc, .int .i64 ast, .slice sa l.length sc, .int .i64 mn, .int .i64 mx, .bool z, .int .i64 ix, .string nm] 25) = w1 at *
      go_loopw [3, 9] (fun lv iv wr => ∃ (i : Nat), i ≤ l.length ∧ iv = .int .i64 (i : Int) ∧ lv = .int .i64 ((min (uzs (trs (l.take i))) 2001 : Nat) : Int) ∧ Below w1.heap.size w1 wr) (fun _ iv _ => l.length - (intOf iv).toNat)
      case atStart => exact ⟨0, Nat.zero_le _, rfl, by rw [List.take_zero, trs, uzs]; rfl, Below.refl _ _⟩
      case round =>
        obtain ⟨i, hi, rfl, rfl, hb⟩ := hrel
        have HB := Lib.hid hb
        clear hb
        by_cases hlt : i < l.length
        · have hlt2 : (i : Int) < (l.length : Int) := by omega
          obtain ⟨b, off, rfl, hSb, _⟩ := HN.out.2.2.2.2 (by omega)
          obtain ⟨u, hu⟩ : ∃ u, l[i]? = some u := ⟨_, List.getElem?_eq_getElem hlt⟩
          have hum : u ∈ l := List.mem_of_getElem? hu
          have hbb := HS.out b hSb
          have hbw := HB0.out.trans (HB.out.mono HB0.out.size)
          have hcell : ∀ j, j < 9 → wr.cell? ⟨b, off + i * 9 + j, none⟩ = u.vals[j]? := fun j hj => by
            rw [Nat.add_assoc, ← HN.out.node hu hj]
            exact hbw.cell (p := ⟨b, off + (i * 9 + j), none⟩) hbb
          have hba : Below wr.heap.size wr (wr.alloc (.cells u.vals.toArray 25)) := (Below.refl _ _).alloc (Nat.le_refl _) _
          have hin := IH.out u hum S (wr.alloc (.cells u.vals.toArray 25)) ((HL.out u hum).below HS.out (hbw.trans (hba.mono hbw.size))) (HSB.out u hum) (fun b hb => Nat.lt_of_lt_of_le (HS.out b hb) (Nat.le_trans hbw.size hba.size))
          have HST := Lib.hid (uzs_snoc hu)
          have HBA := Lib.hid hba
          have HUB := Lib.hid (Blk.new wr 25 u.vals)
          generalize uz u.tr = gu at *
          generalize uzs (trs (l.take i)) = gq at *
          have hw1 : IntKind.i64.wrap (((min gq 2001 : Nat) : Int) + ((min gu 2001 : Nat) : Int)) = ((min gq 2001 : Nat) : Int) + ((min gu 2001 : Nat) : Int) := by rw [IntKind.wrap_i64]; omega
          cases u with
          | mk k' r' ra' rc' a' l' sa' sc' n' m' z' i' s' =>
          simp only [Ta.vals] at hcell HBA HUB
          simp only [Ta.val, Ta.vals] at hin
          have c0 := hcell 0 (by omega)
          have c1' := hcell 1 (by omega)
          have c2' := hcell 2 (by omega)
          have c3 := hcell 3 (by omega)
          have c4 := hcell 4 (by omega)
          have c5 := hcell 5 (by omega)
          have c6 := hcell 6 (by omega)
          have c7 := hcell 7 (by omega)
          have c8 := hcell 8 (by omega)
          simp only [List.getElem?_cons_zero, List.getElem?_cons_succ, Nat.add_zero] at c0 c1' c2' c3 c4 c5 c6 c7 c8
          have HIN := Lib.hid hin
          clear hin hcell hu hba hbw hum
          go_wp2_with (go_at_call 22; refine HIN.out.mono ?_; rintro e w2 ⟨rfl, hb2⟩; have HB2 := Lib.hid hb2; clear hb2; simp only [])
          go_roundw
          case rel =>
            exact ⟨i + 1, by omega, by go_num, by rw [HST.out]; exact congrArg (Value.int .i64) (by split <;> omega), HB.out.trans ((HBA.out.trans (HB2.out.mono HBA.out.size)).mono HB.out.size)⟩
          case measure => simp [intOf]; omega
        · obtain rfl : i = l.length := by omega
          have hlt2 : ¬ ((l.length : Int) < (l.length : Int)) := by omega
          rw [List.take_length] at *
          have hBW := Lib.hid (HB0.out.trans (HB.out.mono HB0.out.size))
          have z0 : wr.cell? ⟨w.heap.size, 0, none⟩ = some (.int .i64 k) := (HB.out.cell (p := ⟨w.heap.size, 0, none⟩) HBL.out.lt).trans k0
          have z4 : wr.cell? ⟨w.heap.size, 4, none⟩ = some (.int .i64 mn) := (HB.out.cell (p := ⟨w.heap.size, 4, none⟩) HBL.out.lt).trans k4
          have z5 : wr.cell? ⟨w.heap.size, 5, none⟩ = some (.int .i64 mx) := (HB.out.cell (p := ⟨w.heap.size, 5, none⟩) HBL.out.lt).trans k5
          have ht := HT.out
          unfold Ta.tr uz at ht
          obtain ⟨N, hN⟩ : ∃ N, N = uzs (trs l) := ⟨_, rfl⟩
          rw [← hN] at ht ⊢
          have hm2 : min N 2001 ≤ 2001 := Nat.min_le_right _ _
          clear k0 k3 k4 k5 hN
          by_cases hk : k = 6
          · subst hk
            have hnb := HNB.out
            unfold Ta.tr nodeB nodeF at hnb
            simp only [reduceIte, Int.reduceEq, Bool.and_eq_true, Bool.or_eq_true, decide_eq_true_eq, beq_iff_eq] at hnb
            obtain ⟨-, -, hn0, hn1, hmx⟩ := hnb
            rw [if_neg (by simp)] at ht
            obtain ⟨m0, rfl⟩ : ∃ m0 : Nat, mn = (m0 : Int) := ⟨mn.toNat, by omega⟩
            obtain ⟨b, hb⟩ : ∃ b : Nat, b = min N 2001 := ⟨_, rfl⟩
            by_cases hm : mx = -1
            · subst hm
              rw [if_pos rfl, ← mul_sat, ← hb, Int.toNat_natCast] at ht
              rw [← hb]
              obtain ⟨a, ha⟩ : ∃ a : Nat, a = max m0 1 := ⟨_, rfl⟩
              have ha1 : 1 ≤ a ∧ a ≤ 1000 := by omega
              rw [← ha] at ht
              obtain ⟨p, hp⟩ : ∃ p : Nat, p = a * b := ⟨_, rfl⟩
              have hpb : p ≤ 1000 * 2001 := hp ▸ Nat.mul_le_mul (by omega) (by omega)
              rw [← hp] at ht
              have hw1 : IntKind.i64.wrap ((a : Int) * (b : Int)) = (p : Int) := by rw [show (a : Int) * (b : Int) = (p : Int) from by rw [hp]; simp, IntKind.wrap_i64]; omega
              have hw2 : IntKind.i64.wrap ((p : Int) + 1) = (p : Int) + 1 := by rw [IntKind.wrap_i64]; omega
              have HTT := Lib.hid ht
              clear hb hm2
              by_cases hm1 : m0 < 1
              · obtain rfl : m0 = 0 := by omega
                obtain rfl : a = 1 := by omega
                obtain rfl : p = b := by omega
                have hw6 : IntKind.i64.wrap (p : Int) = (p : Int) := by rw [IntKind.wrap_i64]; omega
                clear ha hp
                go_wp2_with fail
                all_goals go_ret
                all_goals exact ⟨congrArg (fun z => Ending.returned (Value.int .i64 z)) (by have := HTT.out; first | omega | (split <;> omega)), hBW.out⟩
              · obtain rfl : a = m0 := by omega
                have hm2 : ¬ ((a : Int) < 1) := by omega
                clear ha hp
                go_wp2_with fail
                all_goals go_ret
                all_goals exact ⟨congrArg (fun z => Ending.returned (Value.int .i64 z)) (by have := HTT.out; first | omega | (split <;> omega)), hBW.out⟩
            · rcases hmx with hmx | hmx
              · exact absurd hmx hm
              obtain ⟨m1, rfl⟩ : ∃ m1 : Nat, mx = (m1 : Int) := ⟨mx.toNat, by omega⟩
              rw [if_neg hm, ← mul_sat2, ← hb, Int.toNat_natCast] at ht
              rw [← hb]
              obtain ⟨d, hd⟩ : ∃ d : Nat, (m1 : Int) - (m0 : Int) = (d : Int) := ⟨((m1 : Int) - (m0 : Int)).toNat, by omega⟩
              rw [hd, Int.toNat_natCast] at ht
              obtain ⟨p, hp⟩ : ∃ p : Nat, p = m0 * b := ⟨_, rfl⟩
              obtain ⟨q, hq⟩ : ∃ q : Nat, q = d * (1 + b) := ⟨_, rfl⟩
              have hpb : p ≤ 1000 * 2001 := hp ▸ Nat.mul_le_mul (by omega) (by omega)
              have hqb : q ≤ 1000 * 2002 := hq ▸ Nat.mul_le_mul (by omega) (by omega)
              rw [← hp, ← hq] at ht
              have hw1 : IntKind.i64.wrap ((m0 : Int) * (b : Int)) = (p : Int) := by rw [show (m0 : Int) * (b : Int) = (p : Int) from by rw [hp]; simp, IntKind.wrap_i64]; omega
              have hw2 : IntKind.i64.wrap ((m1 : Int) - (m0 : Int)) = (d : Int) := by rw [hd, IntKind.wrap_i64]; omega
              have hw3 : IntKind.i64.wrap (1 + (b : Int)) = 1 + (b : Int) := by rw [IntKind.wrap_i64]; omega
              have hw4 : IntKind.i64.wrap ((d : Int) * (1 + (b : Int))) = (q : Int) := by rw [show (d : Int) * (1 + (b : Int)) = (q : Int) from by rw [hq]; simp, IntKind.wrap_i64]; omega
              have hw5 : IntKind.i64.wrap ((p : Int) + (q : Int)) = (p : Int) + (q : Int) := by rw [IntKind.wrap_i64]; omega
              have hm2' : ¬ ((m1 : Int) = -1) := by omega
              have hm3 : ((m1 : Int) == -1) = false := beq_eq_false_iff_ne.2 hm2'
              have HTT := Lib.hid ht
              clear hb hp hq hd hm2
              go_wp2_with fail
              all_goals go_ret
              all_goals exact ⟨congrArg (fun z => Ending.returned (Value.int .i64 z)) (by have := HTT.out; first | omega | (split <;> omega)), hBW.out⟩
          · have hk2 : (k == 6) = false := beq_eq_false_iff_ne.2 hk
            rw [if_pos hk] at ht
            have hw1 : IntKind.i64.wrap (((min N 2001 : Nat) : Int) + 1) = ((min N 2001 : Nat) : Int) + 1 := by rw [IntKind.wrap_i64]; omega
            obtain ⟨b, hb⟩ : ∃ b : Nat, b = min N 2001 := ⟨_, rfl⟩
            have ht2 : T = min (b + 1) 2001 := by omega
            rw [← hb] at hw1 ⊢
            have HTT := Lib.hid ht2
            clear hb ht ht2 hm2
            go_wp2_with fail
            all_goals go_ret
            all_goals exact ⟨congrArg (fun z => Ending.returned (Value.int .i64 z)) (by have := HTT.out; first | omega | (split <;> omega)), hBW.out⟩
end Go.Proofs.Yteimpcjafgllpaa
namespace Go.Proofs.Yteimpcjafgllpaa
open Go.RowKit Go.Proofs.Yteimpcjafgllpaa.Tr
theorem szUs_append : ∀ a b : List Us, szUs (a ++ b) = szUs a + szUs b
  | [], b => by simp [szUs]
  | t :: a, b => by rw [List.cons_append, szUs, szUs, szUs_append a b]; omega
theorem szUs_rep (x : Us) : ∀ n : Nat, szUs (List.replicate n x) = n * szU x
  | 0 => by simp [szUs]
  | n + 1 => by rw [List.replicate_succ, szUs, szUs_rep x n, Nat.succ_mul]; omega
theorem szU_opt (z : Bool) (x : Us) : ∀ n : Nat, szU (optU z x n) = (n + 1) * szU x + 2 * n + 1
  | 0 => by simp [optU, loopU, szU, szUs]
  | n + 1 => by
    rw [optU, loopU, szU, szUs, szUs, catU, szU, szUs, szUs, szUs, szU_opt z x n, Nat.succ_mul (n + 1)]
    omega
/-- A repeat's. -/
theorem szU_rep {x : Us} {n m : Int} {z : Bool} {X N D : Nat} (hX : szU x = X) (hle : X ≤ 2 * D * N) (hN : 1 ≤ N) (hn : 0 ≤ n) (hm : m = -1 ∨ n ≤ m) :
    szU (repU x n m z) ≤ 2 * (D + 1) * (if m = -1 then max n.toNat 1 * N + 1 else max 1 (n.toNat * N + (m - n).toNat * (1 + N))) := by
  obtain ⟨a, rfl⟩ : ∃ a : Nat, n = (a : Int) := ⟨n.toNat, by omega⟩
  unfold repU
  rw [Int.toNat_natCast]
  have e1 : 2 * (D + 1) = 2 * D + 2 := by omega
  split
  · split
    · rename_i h0
      obtain rfl : a = 0 := by omega
      rw [loopU, szU, szUs, szUs, hX, show max 0 1 * N + 1 = N + 1 from by simp, e1, Nat.add_mul, Nat.mul_add]
      omega
    · rename_i h0
      have h1 : 1 ≤ a := by omega
      rw [catU, szU, szUs_append, szUs_rep, szUs, szUs, loopU, szU, szUs, szUs, hX, show ((a : Int) - 1).toNat = a - 1 from by omega, show max a 1 = a from by omega, e1]
      have h2 : (a - 1) * X + X = a * X := by rw [← Nat.succ_mul]; congr 1; omega
      have h3 : a * X ≤ a * (2 * D * N) := Nat.mul_le_mul_left _ hle
      have h4 : a * (2 * D * N) = 2 * D * (a * N) := by rw [Nat.mul_left_comm]
      rw [Nat.add_mul, Nat.mul_add]
      omega
  · rename_i hm1
    obtain ⟨b, rfl⟩ : ∃ b : Nat, m = (b : Int) := ⟨m.toNat, by omega⟩
    split
    · rw [emptyU, szU, szUs]
      have := Nat.le_mul_of_pos_right (2 * (D + 1)) (show 0 < max 1 (a * N + ((b : Int) - (a : Int)).toNat * (1 + N)) from by omega)
      omega
    · rename_i h0
      obtain ⟨d, hd⟩ : ∃ d : Nat, d = ((b : Int) - (a : Int)).toNat := ⟨_, rfl⟩
      rw [← hd]
      rw [catU, szU, szUs_append, szUs_rep, hX]
      have h3 : a * X ≤ a * (2 * D * N) := Nat.mul_le_mul_left _ hle
      have h4 : a * (2 * D * N) = 2 * D * (a * N) := by rw [Nat.mul_left_comm]
      split
      · rename_i h1
        rw [szUs, szUs, szU_opt, hX, show ((b : Int) - (a : Int) - 1).toNat = d - 1 from by omega, show d - 1 + 1 = d from by omega]
        have h5 : d * X ≤ d * (2 * D * N) := Nat.mul_le_mul_left _ hle
        have h6 : d * (2 * D * N) = 2 * D * (d * N) := by rw [Nat.mul_left_comm]
        have h7 : d * (1 + N) = d + d * N := by rw [Nat.mul_add, Nat.mul_one]
        have h8 : 1 ≤ d := by omega
        rw [show max 1 (a * N + d * (1 + N)) = a * N + (d + d * N) from by omega, e1, Nat.add_mul, Nat.mul_add, Nat.mul_add]
        have h9 : d ≤ 2 * D * d + d := by omega
        omega
      · rename_i h1
        have h8 : d = 0 := by omega
        have h9 : 1 ≤ a := by omega
        have h10 : N ≤ a * N := Nat.le_mul_of_pos_left N h9
        rw [h8, szUs, Nat.zero_mul, show max 1 (a * N + 0) = a * N from by omega, e1, Nat.add_mul]
        omega
mutual
theorem uz_pos : ∀ t : Tr.Tr, 1 ≤ uz t
  | .mk k r a l n m z i s => by
    rw [uz]
    split
    · omega
    · split <;> omega
end
mutual
theorem sz_le : ∀ (t : Tr.Tr) (D : Nat), allB t = true → deep t ≤ D → szU (unfS t) ≤ 2 * D * uz t
  | .mk k r a l n m z i s, D, h, hd => by
    obtain ⟨hnb, hsub⟩ := (allB_iff _).1 h
    rw [deep] at hd
    obtain ⟨D', rfl⟩ : ∃ D', D = D' + 1 := ⟨D - 1, by omega⟩
    have hs := szs_le l D' hsub (by omega)
    rw [unfS, uz]
    split
    · rename_i hk
      rw [szU, show 2 * (D' + 1) = 2 * D' + 2 from by omega, Nat.add_mul, Nat.mul_add]
      omega
    · rename_i hk
      have hk6 : k = 6 := by omega
      subst hk6
      have hbd : l.length = 1 ∧ 0 ≤ n ∧ (m = -1 ∨ n ≤ m) := by
        unfold nodeB nodeF at hnb
        simp only [reduceIte, Int.reduceEq, Bool.and_eq_true, Bool.or_eq_true, decide_eq_true_eq, beq_iff_eq] at hnb
        exact ⟨hnb.2.1, hnb.2.2.1, hnb.2.2.2.2.imp id (·.1)⟩
      obtain ⟨hl, hn0, hmx⟩ := hbd
      obtain ⟨x, rfl⟩ := List.length_eq_one_iff.1 hl
      simp only [unfSs, szUs, uzs, List.headD_cons, Nat.add_zero] at hs ⊢
      exact szU_rep rfl hs (uz_pos x) hn0 hmx
theorem szs_le : ∀ (l : List Tr.Tr) (D : Nat), (∀ u ∈ l, allB u = true) → deeps l ≤ D → szUs (unfSs l) ≤ 2 * D * uzs l
  | [], _, _, _ => by simp [unfSs, szUs, uzs]
  | t :: l, D, h, hd => by
    rw [deeps] at hd
    have h1 := sz_le t D (h t List.mem_cons_self) (by omega)
    have h2 := szs_le l D (fun v hv => h v (List.mem_cons_of_mem _ hv)) (by omega)
    rw [unfSs, szUs, uzs, Nat.mul_add]
    omega
end
end Go.Proofs.Yteimpcjafgllpaa
namespace Go.Proofs.Yteimpcjafgllpaa
open Go.Proofs.Yteimpcjafgllpaa.Tr
theorem node_ix {k : Int} {r : List (Int × Int)} {a n m : Int} {z : Bool} {i : Int} {s : ByteArray} {q : Nat} (h : nodeF k r a q n m z i s = true) : 0 ≤ i ∧ i ≤ 500 := by
  have hz : ∀ (r : List (Int × Int)) (a n m : Int) (z : Bool) (i : Int) (s : ByteArray), zeroB r a n m z i s = true → i = 0 := fun r a n m z i s h => by
    unfold zeroB at h
    simp only [Bool.and_eq_true, beq_iff_eq] at h
    exact h.2.2.2.2.2.1
  unfold nodeF at h
  by_cases k1 : k = 1
  · rw [if_pos k1, Bool.and_eq_true] at h; have := hz _ _ _ _ _ _ _ h.1; omega
  rw [if_neg k1] at h
  by_cases k2 : k = 2
  · rw [if_pos k2, Bool.and_eq_true] at h; have := hz _ _ _ _ _ _ _ h.1; omega
  rw [if_neg k2] at h
  by_cases k3 : k = 3
  · rw [if_pos k3, Bool.and_eq_true] at h; have := hz _ _ _ _ _ _ _ h.1; omega
  rw [if_neg k3] at h
  by_cases k4 : k = 4
  · rw [if_pos k4, Bool.and_eq_true] at h; have := hz _ _ _ _ _ _ _ h.1; omega
  rw [if_neg k4] at h
  by_cases k5 : k = 5
  · rw [if_pos k5, Bool.and_eq_true] at h; have := hz _ _ _ _ _ _ _ h.1; omega
  rw [if_neg k5] at h
  by_cases k6 : k = 6
  · rw [if_pos k6, Bool.and_eq_true] at h; have := hz _ _ _ _ _ _ _ h.1; omega
  rw [if_neg k6] at h
  by_cases k7 : k = 7
  · rw [if_pos k7] at h
    simp only [Bool.and_eq_true, beq_iff_eq, decide_eq_true_eq] at h
    omega
  · rw [if_neg k7] at h; cases h
mutual
theorem grt_bd : ∀ t : Tr.Tr, allB t = true → 0 ≤ greatest t ∧ greatest t ≤ 500
  | .mk k r a l n m z i s, h => by
    obtain ⟨hnb, hsub⟩ := (allB_iff _).1 h
    have hi := node_ix hnb
    rw [greatest]
    exact ⟨Int.le_trans hi.1 (greatests_ge l i).1, greatests_le l i 500 hi.2 fun t ht => (grts_bd l hsub t ht).2⟩
theorem grts_bd : ∀ l : List Tr.Tr, (∀ u ∈ l, allB u = true) → ∀ u ∈ l, 0 ≤ greatest u ∧ greatest u ≤ 500
  | [], _ => fun u hu => by cases hu
  | t :: l, h => fun u hu => by
    rcases List.mem_cons.1 hu with e | hu
    · rw [e]; exact grt_bd t (h t List.mem_cons_self)
    · exact grts_bd l (fun v hv => h v (List.mem_cons_of_mem _ hv)) u hu
end
end Go.Proofs.Yteimpcjafgllpaa
