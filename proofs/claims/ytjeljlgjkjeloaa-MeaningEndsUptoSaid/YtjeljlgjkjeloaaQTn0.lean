/- Trees in memory that share a tree's lists: words. -/
import Derived.Test.YtjeljlgjkjeloaaQTreeW
import Derived.Test.YtjeljlgjkjeloaaQRefRightR
import Derived.Test.YtjeljlgjkjeloaaQAwM
import Derived.Test.YtjeljlgjkjeloaaQMulW
namespace Go.Proofs.Ytjeljlgjkjeloaa
open Go.RowKit

/-- Blocks of S, and those from B on but those of L. -/
def Sx (S : Nat → Prop) (B : Nat) (L : List Nat) (w : World) : Nat → Prop := fun b => S b ∨ Fr B L w b
section
variable {S : Nat → Prop} {w w' : World} {B B' : Nat} {L L' M : List Nat} {t : Ta}
theorem RT.sx_kept (h : RT w (Sx S B L w) t) (hS : ∀ b, S b → b < B) (hB : B ≤ w.heap.size) (k : Kept w w' M) (hM : ∀ b ∈ M, B ≤ b ∧ (b ∈ L ∨ w.heap.size ≤ b)) (hL : ∀ b ∈ L', b ∈ L ∨ w.heap.size ≤ b ∨ b < B) : RT w' (Sx S B L' w') t := by
  refine (h.go fun b hb => k.block b ?_ fun hm => ?_).mono fun b hb => ?_
  · rcases hb with hb | hb
    · have := hS b hb; omega
    · exact hb.2.1
  · obtain ⟨h1, h2⟩ := hM b hm
    rcases hb with hb | hb
    · have := hS b hb; omega
    · rcases h2 with e | e
      · exact hb.2.2 e
      · have := hb.2.1; omega
  · rcases hb with hb | hb
    · exact .inl hb
    · refine .inr ⟨hb.1, Nat.lt_of_lt_of_le hb.2.1 k.size, fun hm => ?_⟩
      rcases hL b hm with e | e | e
      · exact hb.2.2 e
      · have := hb.2.1; omega
      · have := hb.1; omega
theorem RT.sx_below (h : RT w (Sx S B L w) t) (hS : ∀ b, S b → b < B) (hB : B ≤ w.heap.size) (k : Below w.heap.size w w') : RT w' (Sx S B L w') t :=
  h.sx_kept hS hB (Kept.of_below (L := []) k) (by simp) (fun b hb => .inl hb)
theorem RT.sx_in (h : RT w (Sx S B' [] w) t) (hB : B ≤ B') (hL : ∀ b ∈ L, b < B') : RT w (Sx S B L w) t :=
  h.mono fun b hb => hb.imp id fun hb => ⟨Nat.le_trans hB hb.1, hb.2.1, fun hm => by have := hL b hm; have := hb.1; omega⟩
theorem RT.sx_less (h : RT w (Sx S B L w) t) (hL : ∀ b ∈ L', b ∈ L) : RT w (Sx S B L' w) t :=
  h.mono fun b hb => hb.imp id fun hb => ⟨hb.1, hb.2.1, fun hm => hb.2.2 (hL b hm)⟩
end
/-- A row of trees that grows; its trees lie in S, or from B on, and not in the row's block. -/
structure RowN (S : Nat → Prop) (B : Nat) (v : Value) (us : List Ta) (w : World) : Prop where
  own : w.ownsRow B 28 9 v us.length (rowT us)
  els : ∀ u ∈ us, RT w (Sx S B v.ownBlock.toList w) u
section
variable {S : Nat → Prop} {w w' w'' : World} {B B' : Nat} {v v' : Value} {us : List Ta} {u : Ta}
theorem RowN.nil (S : Nat → Prop) (B : Nat) (w : World) : RowN S B (.slice none 0 0) [] w := ⟨World.ownsRow_nil _ _ _ _, by simp⟩
theorem RowN.below (h : RowN S B v us w) (hS : ∀ b, S b → b < B) (hB : B ≤ w.heap.size) (k : Below w.heap.size w w') : RowN S B v us w' :=
  ⟨own_below h.own k, fun u hu => (h.els u hu).sx_below hS hB k⟩
/-- What lies elsewhere turns. -/
theorem RowN.kept (h : RowN S B v us w) {M : List Nat} (hS : ∀ b, S b → b < B) (hB : B ≤ w.heap.size) (k : Kept w w' M) (hM : ∀ b ∈ M, w.heap.size ≤ b) : RowN S B v us w' :=
  h.below hS hB ⟨k.os, k.tape, k.output, k.size, fun b hb => k.block b hb fun hm => by have := hM b hm; omega⟩
/-- A tree more. -/
theorem RowN.put (h : RowN S B v us w) (hS : ∀ b, S b → b < B) (hB : B ≤ w.heap.size) (hu : RT w (Sx S B v.ownBlock.toList w) u) (ha : Appended B 28 9 v v' us.length 1 (rowT us) u.vals w w') : RowN S B v' (us ++ [u]) w' := by
  have hk : Kept w w' v.ownBlock.toList := Kept.of_grown' ha.grown
  have hM : ∀ b ∈ v.ownBlock.toList, B ≤ b ∧ (b ∈ v.ownBlock.toList ∨ w.heap.size ≤ b) := fun b hb => ⟨(h.own.lt b (by simpa using hb)).1, .inl hb⟩
  have hL : ∀ b ∈ v'.ownBlock.toList, b ∈ v.ownBlock.toList ∨ w.heap.size ≤ b ∨ b < B := fun b hb => by
    rcases ha.at_ with e | e
    · rw [e] at hb; exact .inl hb
    · rw [e] at hb; simp at hb; exact .inr (.inl (by omega))
  refine ⟨?_, fun x hx => ?_⟩
  · rw [List.length_append, rowT_append]
    exact (by simpa [rowT] using ha.own)
  · rcases List.mem_append.1 hx with hx | hx
    · exact (h.els x hx).sx_kept hS hB hk hM hL
    · rw [List.mem_singleton] at hx; subst hx
      exact hu.sx_kept hS hB hk hM hL
/-- The row is a tree's. -/
theorem RowN.done (h : RowN S B v us w) (hl : us.length ≤ 1048576) {k : Int} {r : List (Int × Int)} {ra : Option Addr} {rc : Nat} {ast mn mx : Int} {z : Bool} {ix : Int} {nm : ByteArray} (hr : RdA w (Sx S B [] w) 2 ra r.length rc (flat r)) (hrl : r.length ≤ 1048576) (hnm : nm.size ≤ 1048576) :
    ∃ A c, v = .slice A us.length c ∧ RT w (Sx S B [] w) (Ta.mk k r ra rc ast us A c mn mx z ix nm) := by
  obtain ⟨A, c, rfl, hrd⟩ := RdA.of_own (L := []) h.own (by simp)
  exact ⟨A, c, rfl, RT.of ⟨hr, hrl, hl, hnm⟩ (hrd.mono fun b hb => .inr hb) fun u hu => (h.els u hu).sx_less (by simp)⟩
end
/-- What stands while a tree is turned: the node at hand, the place of what is returned. -/
structure NS (w : World) (cs : List Value) (wr : World) : Prop where
  below : Below w.heap.size w wr
  node : Blk wr w.heap.size 28 cs
  res : Blk wr (w.heap.size + 1) 28 [.int .i64 0, .slice none 0 0, .int .i64 0, .slice none 0 0, .int .i64 0, .int .i64 0, .bool false, .int .i64 0, .string ⟨#[]⟩]
theorem NS.bel {w : World} {cs : List Value} {wr wq : World} (h : NS w cs wr) (hb : Below wr.heap.size wr wq) : NS w cs wq :=
  ⟨h.below.trans (hb.mono h.below.size), h.node.below hb h.node.lt, h.res.below hb h.res.lt⟩
theorem NS.set_ {w : World} {cs : List Value} {wr : World} (h : NS w cs wr) (i : Nat) (v : Value) : NS w (cs.set i v) (wr.setCell ⟨w.heap.size, i, none⟩ v) :=
  ⟨Below.kept h.below (Kept.setCell _ _) (by intro k hk; simp at hk; omega) h.below.size, h.node.set_ i v, h.res.kept (Kept.setCell ⟨w.heap.size, i, none⟩ v) (by simp)⟩
theorem NS.kept {w : World} {cs : List Value} {wr wq : World} {M : List Nat} (h : NS w cs wr) (hb : Kept wr wq M) (hg : ∀ g ∈ M, w.heap.size + 1 < g) : NS w cs wq :=
  ⟨Below.kept h.below hb (by intro k hk; have := hg k hk; omega) h.below.size, h.node.kept hb (fun hm => by have := hg _ hm; omega), h.res.kept hb (fun hm => by have := hg _ hm; omega)⟩
/-- The tree without its groups. -/
def bareS : Tr.Tr → Tr.Tr
  | .mk k r a l n m z i s => if k = 7 then ((l.map bareS).headD (.mk k r a l n m z i s)) else .mk k r a (l.map bareS) n m z i s
theorem bare_one {k : Int} {r : List (Int × Int)} {a n m : Int} {z : Bool} {i : Int} {s : ByteArray} {x : Tr.Tr} {l : List Tr.Tr} (h : k = 7) : bareS (.mk k r a (x :: l) n m z i s) = bareS x := by rw [bareS, if_pos h]; simp
end Go.Proofs.Ytjeljlgjkjeloaa
/- heronlaw06.bare: a tree without its groups. -/
namespace Go.Proofs.Ytjeljlgjkjeloaa
open Go.RowKit Go.Proofs.Ytjeljlgjkjeloaa.Tr

theorem info_nodeM : (Try.prog.info? 28).map (fun i => (i.zero, i.size, i.bytes)) = some (some (.agg #[.int .i64 0, .slice none 0 0, .int .i64 0, .slice none 0 0, .int .i64 0, .int .i64 0, .bool false, .int .i64 0, .string ⟨#[]⟩]), 9, 112) := by kernel_rfl
theorem RowN.keptM {S : Nat → Prop} {w w' : World} {B : Nat} {v : Value} {us : List Ta} (h : RowN S B v us w) {M : List Nat} (k : Kept w w' M) (hM : ∀ b ∈ M, b < B ∧ ¬ S b) (hS : ∀ b, S b → b < w.heap.size) : RowN S B v us w' := by
  refine ⟨own_kept h.own k fun x hx hm => ?_, fun u hu => ((h.els u hu).go fun b hb => k.block b ?_ fun hm => ?_).mono fun b hb => ?_⟩
  · have := (h.own.lt x hx).1
    have := (hM x hm).1
    omega
  · rcases hb with hb | hb
    · exact hS b hb
    · exact hb.2.1
  · obtain ⟨h1, h2⟩ := hM b hm
    rcases hb with hb | hb
    · exact h2 hb
    · have := hb.1; omega
  · exact hb.imp id fun hb => ⟨hb.1, Nat.lt_of_lt_of_le hb.2.1 k.size, hb.2.2⟩
/-- Nine cells of the place of what is returned are written. -/
theorem NS.res9 {w : World} {cs : List Value} {wr : World} (h : NS w cs wr) (a0 a1 a2 a3 a4 a5 a6 a7 a8 : Value) :
    Blk (((((((((wr.setCell ⟨w.heap.size + 1, 0, none⟩ (a0)).setCell ⟨w.heap.size + 1, 1, none⟩ (a1)).setCell ⟨w.heap.size + 1, 2, none⟩ (a2)).setCell ⟨w.heap.size + 1, 3, none⟩ (a3)).setCell ⟨w.heap.size + 1, 4, none⟩ (a4)).setCell ⟨w.heap.size + 1, 5, none⟩ (a5)).setCell ⟨w.heap.size + 1, 6, none⟩ (a6)).setCell ⟨w.heap.size + 1, 7, none⟩ (a7)).setCell ⟨w.heap.size + 1, 8, none⟩ (a8)) (w.heap.size + 1) 28 [a0, a1, a2, a3, a4, a5, a6, a7, a8] ∧ Kept wr (((((((((wr.setCell ⟨w.heap.size + 1, 0, none⟩ (a0)).setCell ⟨w.heap.size + 1, 1, none⟩ (a1)).setCell ⟨w.heap.size + 1, 2, none⟩ (a2)).setCell ⟨w.heap.size + 1, 3, none⟩ (a3)).setCell ⟨w.heap.size + 1, 4, none⟩ (a4)).setCell ⟨w.heap.size + 1, 5, none⟩ (a5)).setCell ⟨w.heap.size + 1, 6, none⟩ (a6)).setCell ⟨w.heap.size + 1, 7, none⟩ (a7)).setCell ⟨w.heap.size + 1, 8, none⟩ (a8)) [w.heap.size + 1] := by
  refine ⟨((((((((h.res.set_ 0 a0).set_ 1 a1).set_ 2 a2).set_ 3 a3).set_ 4 a4).set_ 5 a5).set_ 6 a6).set_ 7 a7).set_ 8 a8, ?_⟩
  have := kept9 wr (w.heap.size + 1) 0 a0 a1 a2 a3 a4 a5 a6 a7 a8
  simpa using this
def BareOk (t : Ta) : Prop := ∀ (S : Nat → Prop) (w : World), RT w S t → allB t.tr = true → (∀ b, S b → b < w.heap.size) →
    Calls Try.prog 17 #[t.val] w fun e w' => ∃ u : Ta, e = .returned u.val ∧ u.tr = bareS t.tr ∧ RT w' (Sx S w.heap.size [] w') u ∧ Below w.heap.size w w'
set_option maxRecDepth 100000 in
set_option maxHeartbeats 4000000 in
theorem mbare_any : ∀ t : Ta, BareOk t := by
  intro t
  induction t using Ta.ind with
  | h t ih =>
    intro S w h hall hS
    cases t with
    | mk k r ra rc ast l sa sc mn mx z ix nm =>
    obtain ⟨i0, hinf, hz0, hz1, hz2⟩ := info_parts info_nodeM
    obtain ⟨⟨hR, hrl, hll, hnm⟩, hN, hL⟩ := h.parts
    obtain ⟨hnb, hsb⟩ := (allB_iff _).1 hall
    rw [Ta.tr_subs] at hsb
    have hsc := hN.1
    have hsc2 := hN.2.1
    have hns : NS w [.int .i64 k, .slice ra r.length rc, .int .i64 ast, .slice sa l.length sc, .int .i64 mn, .int .i64 mx, .bool z, .int .i64 ix, .string nm] ((w.alloc (.cells #[.int .i64 k, .slice ra r.length rc, .int .i64 ast, .slice sa l.length sc, .int .i64 mn, .int .i64 mx, .bool z, .int .i64 ix, .string nm] 28)).alloc (.cells #[.int .i64 0, .slice none 0 0, .int .i64 0, .slice none 0 0, .int .i64 0, .int .i64 0, .bool false, .int .i64 0, .string ⟨#[]⟩] 28)) := ⟨two_below w _ _, (Blk.new w 28 [.int .i64 k, .slice ra r.length rc, .int .i64 ast, .slice sa l.length sc, .int .i64 mn, .int .i64 mx, .bool z, .int .i64 ix, .string nm]).alloc _, two_blk w _ 28 [.int .i64 0, .slice none 0 0, .int .i64 0, .slice none 0 0, .int .i64 0, .int .i64 0, .bool false, .int .i64 0, .string ⟨#[]⟩]⟩
    have HNS := Lib.hid hns
    have HSB := Lib.hid (show ∀ u ∈ l, allB u.tr = true from fun u hu => hsb _ (List.mem_map.2 ⟨u, hu, rfl⟩))
    have HNB := Lib.hid hnb
    have HIH := Lib.hid ih
    have HR := Lib.hid hR
    have HN := Lib.hid hN
    have HL := Lib.hid hL
    have HSS := Lib.hid hS
    obtain ⟨T, hT⟩ : ∃ T, T = bareS (Ta.mk k r ra rc ast l sa sc mn mx z ix nm).tr := ⟨_, rfl⟩
    rw [← hT]
    have HT := Lib.hid hT
    clear ih hR hN hL hS h hns hnb hsb hall hT
    have k0 : ((w.alloc (.cells #[.int .i64 k, .slice ra r.length rc, .int .i64 ast, .slice sa l.length sc, .int .i64 mn, .int .i64 mx, .bool z, .int .i64 ix, .string nm] 28)).alloc (.cells #[.int .i64 0, .slice none 0 0, .int .i64 0, .slice none 0 0, .int .i64 0, .int .i64 0, .bool false, .int .i64 0, .string ⟨#[]⟩] 28)).cell? ⟨w.heap.size, 0, none⟩ = some (.int .i64 k) := HNS.out.node.cell 0
    have k3 : ((w.alloc (.cells #[.int .i64 k, .slice ra r.length rc, .int .i64 ast, .slice sa l.length sc, .int .i64 mn, .int .i64 mx, .bool z, .int .i64 ix, .string nm] 28)).alloc (.cells #[.int .i64 0, .slice none 0 0, .int .i64 0, .slice none 0 0, .int .i64 0, .int .i64 0, .bool false, .int .i64 0, .string ⟨#[]⟩] 28)).cell? ⟨w.heap.size, 3, none⟩ = some (.slice sa l.length sc) := HNS.out.node.cell 3
    simp only [Ta.val, Ta.vals]
    by_cases hk : k = 7
    · subst hk
      obtain ⟨x, rfl⟩ : ∃ x, l = [x] := by
        have hnb := HNB.out
        unfold Ta.tr nodeB at hnb
        dsimp only at hnb
        unfold nodeF at hnb
        simp only [reduceIte, Int.reduceEq, Bool.and_eq_true, beq_iff_eq, trs_length] at hnb
        exact List.length_eq_one_iff.1 (by first | exact hnb.2.1 | exact hnb.1.2 | omega)
      obtain ⟨b, off, rfl, hSb, _⟩ := HN.out.2.2.2.2 (by simp)
      have hbb := HSS.out b hSb
      have hcell : ∀ j, j < 9 → ((w.alloc (.cells #[.int .i64 7, .slice ra r.length rc, .int .i64 ast, .slice (some ⟨b, off, none⟩) [x].length sc, .int .i64 mn, .int .i64 mx, .bool z, .int .i64 ix, .string nm] 28)).alloc (.cells #[.int .i64 0, .slice none 0 0, .int .i64 0, .slice none 0 0, .int .i64 0, .int .i64 0, .bool false, .int .i64 0, .string ⟨#[]⟩] 28)).cell? ⟨b, off + j, none⟩ = x.vals[j]? := fun j hj => by
        have := HN.out.node (j := 0) (t := x) rfl hj
        rw [Nat.zero_mul, Nat.zero_add] at this
        rw [← this]
        exact HNS.out.below.cell (p := ⟨b, off + j, none⟩) hbb
      have hin := HIH.out x (by simp [Ta.subs]) S ((w.alloc (.cells #[.int .i64 7, .slice ra r.length rc, .int .i64 ast, .slice (some ⟨b, off, none⟩) [x].length sc, .int .i64 mn, .int .i64 mx, .bool z, .int .i64 ix, .string nm] 28)).alloc (.cells #[.int .i64 0, .slice none 0 0, .int .i64 0, .slice none 0 0, .int .i64 0, .int .i64 0, .bool false, .int .i64 0, .string ⟨#[]⟩] 28)) ((HL.out x (by simp)).below HSS.out HNS.out.below) (HSB.out x (by simp)) (fun b hb => Nat.lt_of_lt_of_le (HSS.out b hb) HNS.out.below.size)
      have HTX := Lib.hid (show T = bareS x.tr from by rw [HT.out, Ta.tr, trs, trs]; exact bare_one rfl)
      cases x with
      | mk k' r' ra' rc' a' l' sa' sc' n' m' z' i' s' =>
      simp only [Ta.vals] at hcell
      simp only [Ta.val, Ta.vals] at hin
      have c0 := hcell 0 (by omega)
      have c1' := hcell 1 (by omega)
      have c2' := hcell 2 (by omega)
      have c3 := hcell 3 (by omega)
      have c4 := hcell 4 (by omega)
      have c5 := hcell 5 (by omega)
      have c6 := hcell 6 (by omega)
      have c7 := hcell 7 (by omega)
      have c8 := hcell 8 (by omega)
      simp only [List.getElem?_cons_zero, List.getElem?_cons_succ, Nat.add_zero, List.length_cons, List.length_nil, Nat.zero_add] at c0 c1' c2' c3 c4 c5 c6 c7 c8 k0 k3 hin HNS
      have HIN := Lib.hid hin
      clear hin hcell
      simp only [List.length_cons, List.length_nil, Nat.zero_add]
      go_enter Try.func17, Try.ntmps17
      go_wp2_with fail
      refine HIN.out.mono ?_
      rintro e w2 ⟨u, rfl, htr, hrt, hb2⟩
      obtain ⟨k2, r2, ra2, rc2, a2, l2, sa2, sc2, n2, m2, z2, i2, s2⟩ := u
      have HN2 := Lib.hid (HNS.out.bel hb2)
      have HTR := Lib.hid htr
      have HRT := Lib.hid hrt
      have hwb := Nat.le_trans HNS.out.below.size hb2.size
      have HSZ := Lib.hid hb2.size
      clear htr hrt hb2 k0 k3 c0 c1' c2' c3 c4 c5 c6 c7 c8
      have q0 := HN2.out.res.cell 0
      have fz0 := HN2.out.res.frozen 0
      have q1 := HN2.out.res.cell 1
      have fz1 := HN2.out.res.frozen 1
      have q2 := HN2.out.res.cell 2
      have fz2 := HN2.out.res.frozen 2
      have q3 := HN2.out.res.cell 3
      have fz3 := HN2.out.res.frozen 3
      have q4 := HN2.out.res.cell 4
      have fz4 := HN2.out.res.frozen 4
      have q5 := HN2.out.res.cell 5
      have fz5 := HN2.out.res.frozen 5
      have q6 := HN2.out.res.cell 6
      have fz6 := HN2.out.res.frozen 6
      have q7 := HN2.out.res.cell 7
      have fz7 := HN2.out.res.frozen 7
      have q8 := HN2.out.res.cell 8
      have fz8 := HN2.out.res.frozen 8
      have fz9 := HN2.out.res.lt
      simp only [List.getElem?_cons_zero, List.getElem?_cons_succ] at q0 q1 q2 q3 q4 q5 q6 q7 q8
      obtain ⟨hres, hK⟩ := HN2.out.res9 (.int .i64 k2) (.slice ra2 r2.length rc2) (.int .i64 a2) (.slice sa2 l2.length sc2) (.int .i64 n2) (.int .i64 m2) (.bool z2) (.int .i64 i2) (.string s2)
      have HRES := Lib.hid hres
      have HK := Lib.hid hK
      clear hres hK
      simp only []
      go_wp2_with fail
      generalize (((((((((w2.setCell ⟨w.heap.size + 1, 0, none⟩ (.int .i64 k2)).setCell ⟨w.heap.size + 1, 1, none⟩ (.slice ra2 r2.length rc2)).setCell ⟨w.heap.size + 1, 2, none⟩ (.int .i64 a2)).setCell ⟨w.heap.size + 1, 3, none⟩ (.slice sa2 l2.length sc2)).setCell ⟨w.heap.size + 1, 4, none⟩ (.int .i64 n2)).setCell ⟨w.heap.size + 1, 5, none⟩ (.int .i64 m2)).setCell ⟨w.heap.size + 1, 6, none⟩ (.bool z2)).setCell ⟨w.heap.size + 1, 7, none⟩ (.int .i64 i2)).setCell ⟨w.heap.size + 1, 8, none⟩ (.string s2)) = wf at *
      refine bodyPost_ret (node_retM rfl _ _ (w.heap.size + 1) (Ta.mk k2 r2 ra2 rc2 a2 l2 sa2 sc2 n2 m2 z2 i2 s2) rfl HRES.out) rfl ?_
      have h0 := HNS.out.below.size
      have h1 := HNS.out.res.lt
      refine ⟨_, rfl, by rw [HTR.out, HTX.out], ?_, Below.kept HN2.out.below HK.out (by intro b hb; simp at hb; omega) HN2.out.below.size⟩
      refine ((HRT.out.go fun b hb => HK.out.block b ?_ fun hm => ?_).mono fun b hb => ?_)
      · rcases hb with hb | hb
        · exact Nat.lt_of_lt_of_le (HSS.out b hb) hwb
        · exact hb.2.1
      · simp only [List.mem_singleton] at hm
        rcases hb with hb | hb
        · have := HSS.out b hb; omega
        · have := hb.1; omega
      · exact hb.imp id fun hb => ⟨by have := hb.1; omega, Nat.lt_of_lt_of_le hb.2.1 HK.out.size, by simp⟩
    · have hk2 : (k == 7) = false := beq_eq_false_iff_ne.2 hk
      have HTK := Lib.hid (show T = Tr.mk k r ast ((trs l).map bareS) mn mx z ix nm from by rw [HT.out, Ta.tr, bareS, if_neg hk])
      clear hk
      go_enter Try.func17, Try.ntmps17
      go_wp2_with fail
      generalize ((w.alloc (.cells #[.int .i64 k, .slice ra r.length rc, .int .i64 ast, .slice sa l.length sc, .int .i64 mn, .int .i64 mx, .bool z, .int .i64 ix, .string nm] 28)).alloc (.cells #[.int .i64 0, .slice none 0 0, .int .i64 0, .slice none 0 0, .int .i64 0, .int .i64 0, .bool false, .int .i64 0, .string ⟨#[]⟩] 28)) = w1 at *
      go_loopw [3, 4] (fun sv iv wr => ∃ (i : Nat) (us : List Ta), i ≤ l.length ∧ iv = .int .i64 (i : Int) ∧ us.length = i ∧ trs us = (trs (l.take i)).map bareS ∧ RowN S (w.heap.size + 2) sv us wr ∧ NS w [.int .i64 k, .slice ra r.length rc, .int .i64 ast, .slice sa l.length sc, .int .i64 mn, .int .i64 mx, .bool z, .int .i64 ix, .string nm] wr) (fun _ iv _ => l.length - (intOf iv).toNat)
      case atStart => exact ⟨0, [], Nat.zero_le _, rfl, rfl, rfl, RowN.nil _ _ _, HNS.out⟩
      case round =>
        obtain ⟨i, us, hi, rfl, hul, hut, hrow, hns⟩ := hrel
        have HNR := Lib.hid hns
        have r3 : wr.cell? ⟨w.heap.size, 3, none⟩ = some (.slice sa l.length sc) := hns.node.cell 3
        obtain ⟨A, c, rfl⟩ := own_shape hrow.own
        have HROW := Lib.hid hrow
        have HUT := Lib.hid hut
        clear hns hrow hut
        by_cases hlt : i < l.length
        · have hlt2 : (i : Int) < (l.length : Int) := by omega
          obtain ⟨b, off, rfl, hSb, _⟩ := HN.out.2.2.2.2 (by omega)
          obtain ⟨u, hu⟩ : ∃ u, l[i]? = some u := ⟨_, List.getElem?_eq_getElem hlt⟩
          have hum : u ∈ l := List.mem_of_getElem? hu
          have hbb := HSS.out b hSb
          have hcell : ∀ j, j < 9 → wr.cell? ⟨b, off + i * 9 + j, none⟩ = u.vals[j]? := fun j hj => by
            rw [Nat.add_assoc, ← HN.out.node hu hj]
            exact HNR.out.below.cell (p := ⟨b, off + (i * 9 + j), none⟩) hbb
          have hin := HIH.out u hum S wr ((HL.out u hum).below HSS.out HNR.out.below) (HSB.out u hum) (fun b hb => Nat.lt_of_lt_of_le (HSS.out b hb) HNR.out.below.size)
          have HTK1 := Lib.hid (show trs (l.take (i + 1)) = trs (l.take i) ++ [u.tr] from by rw [List.take_add_one, hu, trs_map, trs_map, List.map_append]; rfl)
          cases u with
          | mk k' r' ra' rc' a' l' sa' sc' n' m' z' i' s' =>
          simp only [Ta.vals] at hcell
          simp only [Ta.val, Ta.vals] at hin
          have c0 := hcell 0 (by omega)
          have c1' := hcell 1 (by omega)
          have c2' := hcell 2 (by omega)
          have c3 := hcell 3 (by omega)
          have c4 := hcell 4 (by omega)
          have c5 := hcell 5 (by omega)
          have c6 := hcell 6 (by omega)
          have c7 := hcell 7 (by omega)
          have c8 := hcell 8 (by omega)
          simp only [List.getElem?_cons_zero, List.getElem?_cons_succ, Nat.add_zero] at c0 c1' c2' c3 c4 c5 c6 c7 c8
          have HIN := Lib.hid hin
          clear hin hcell hu hum
          go_wp2_with fail
          refine HIN.out.mono ?_
          rintro e w2 ⟨u, rfl, htr, hrt, hb2⟩
          obtain ⟨k2, r2, ra2, rc2, a2, l2, sa2, sc2, n2, m2, z2, i2, s2⟩ := u
          have hwr := HNR.out.below.size
          have hws := HNR.out.res.lt
          have hS2 : ∀ b, S b → b < (w.heap.size + 2) := fun b hb => by have := HSS.out b hb; omega
          have hba : Below w2.heap.size w2 (w2.alloc (.cells #[.int .i64 k2, .slice ra2 r2.length rc2, .int .i64 a2, .slice sa2 l2.length sc2, .int .i64 n2, .int .i64 m2, .bool z2, .int .i64 i2, .string s2] 28)) := (Below.refl _ _).alloc (Nat.le_refl _) _
          have hbb2 : Below wr.heap.size wr (w2.alloc (.cells #[.int .i64 k2, .slice ra2 r2.length rc2, .int .i64 a2, .slice sa2 l2.length sc2, .int .i64 n2, .int .i64 m2, .bool z2, .int .i64 i2, .string s2] 28)) := hb2.trans (hba.mono hb2.size)
          have HRA := Lib.hid (HROW.out.below hS2 (by omega) hbb2)
          have HNA := Lib.hid (HNR.out.bel hbb2)
          have hown : ∀ b ∈ (Value.slice A us.length c).ownBlock.toList, b < wr.heap.size := fun b hb => (HROW.out.own.lt b (by simpa using hb)).2
          have hs2 := hb2.size
          have HUA := Lib.hid (((hrt.sx_in (L := (Value.slice A us.length c).ownBlock.toList) (show (w.heap.size + 2) ≤ wr.heap.size from by omega) hown).sx_below hS2 (by omega) hba))
          have HTR := Lib.hid htr
          have HNEW := Lib.hid (Reads.of_own (own_lit w2 w2.heap.size 28 9 1 #[.int .i64 k2, .slice ra2 r2.length rc2, .int .i64 a2, .slice sa2 l2.length sc2, .int .i64 n2, .int .i64 m2, .bool z2, .int .i64 i2, .string s2] (Ta.mk k2 r2 ra2 rc2 a2 l2 sa2 sc2 n2 m2 z2 i2 s2).vals (Nat.le_refl _) rfl (by rw [Ta.vals_length]) (by decide)))
          have hsz : (w.heap.size + 2) ≤ (w2.alloc (.cells #[.int .i64 k2, .slice ra2 r2.length rc2, .int .i64 a2, .slice sa2 l2.length sc2, .int .i64 n2, .int .i64 m2, .bool z2, .int .i64 i2, .string s2] 28)).heap.size := by simp; omega
          have hn1 : us.length + 1 ≤ 1048576 := by omega
          clear htr hrt hb2 hba hbb2 hown hS2 c0 c1' c2' c3 c4 c5 c6 c7 c8
          simp only []
          go_wp2_with (at_builtin; refine wpList_append_reads rfl (.tmp 20) (.tmp 27) 26 rfl (w.heap.size + 2) 28 i0 (.agg #[.int .i64 0, .slice none 0 0, .int .i64 0, .slice none 0 0, .int .i64 0, .int .i64 0, .bool false, .int .i64 0, .string ⟨#[]⟩]) 9 112 Try.underlying26 hinf hz0 hz1 hz2 rfl (by decide) (.slice A us.length c) us.length (rowT us) rfl HRA.out.own (some ⟨w2.heap.size, 0, none⟩) _ 1 1 (Ta.mk k2 r2 ra2 rc2 a2 l2 sa2 sc2 n2 m2 z2 i2 s2).vals rfl (fun h => by cases h) HNEW.out (Ta.mk k2 r2 ra2 rc2 a2 l2 sa2 sc2 n2 m2 z2 i2 s2).one (by unfold maxLen; omega) (by omega) hsz ?_; intro v3 w3 ha3; have HA3 := Lib.hid ha3; clear ha3)
          go_roundw
          case rel =>
            have hp := HRA.out.put (fun b hb => by have := HSS.out b hb; omega) hsz HUA.out HA3.out
            refine ⟨i + 1, us ++ [(Ta.mk k2 r2 ra2 rc2 a2 l2 sa2 sc2 n2 m2 z2 i2 s2)], by omega, by go_num, by simp [hul], ?_, hp, HNA.out.kept (Kept.of_grown' HA3.out.grown) fun g hg => ?_⟩
            · rw [trs_map, List.map_append, ← trs_map, HUT.out, HTK1.out, List.map_append]; simp only [List.map_cons, List.map_nil]; rw [HTR.out]
            · have := (HRA.out.own.lt g (by simpa using hg)).1; omega
          case measure => simp [intOf]; omega
        · obtain rfl : i = l.length := by omega
          have hlt2 : ¬ ((l.length : Int) < (l.length : Int)) := by omega
          have f3 := HNR.out.node.frozen 3
          have l3 := HNR.out.node.lt
          obtain ⟨A2, c2, e2, hrt⟩ := HROW.out.done (k := k) (r := r) (ra := ra) (rc := rc) (ast := ast) (mn := mn) (mx := mx) (z := z) (ix := ix) (nm := nm) (by omega) ((HR.out.go fun b hb => HNR.out.below.block b (HSS.out b hb)).mono fun b hb => .inl hb) hrl hnm
          obtain ⟨rfl, -, rfl⟩ : A = A2 ∧ us.length = us.length ∧ c = c2 := by injection e2 with h1 h2 h3; exact ⟨h1, rfl, h3⟩
          have HRT := Lib.hid hrt
          have HNF := Lib.hid (HNR.out.set_ 3 (.slice A us.length c))
          have HK1 := Lib.hid (Kept.setCell (w := wr) ⟨w.heap.size, 3, none⟩ (.slice A us.length c))
          clear e2 hrt
          have hss : wr.heap.size = (wr.setCell ⟨w.heap.size, 3, none⟩ (.slice A us.length c)).heap.size := by simp
          have g0 : (wr.setCell ⟨w.heap.size, 3, none⟩ (.slice A us.length c)).cell? ⟨w.heap.size, 0, none⟩ = some (.int .i64 k) := HNF.out.node.cell 0
          have g1 : (wr.setCell ⟨w.heap.size, 3, none⟩ (.slice A us.length c)).cell? ⟨w.heap.size, 1, none⟩ = some (.slice ra r.length rc) := HNF.out.node.cell 1
          have g2 : (wr.setCell ⟨w.heap.size, 3, none⟩ (.slice A us.length c)).cell? ⟨w.heap.size, 2, none⟩ = some (.int .i64 ast) := HNF.out.node.cell 2
          have g3 : (wr.setCell ⟨w.heap.size, 3, none⟩ (.slice A us.length c)).cell? ⟨w.heap.size, 3, none⟩ = some (.slice A us.length c) := HNF.out.node.cell 3
          have g4 : (wr.setCell ⟨w.heap.size, 3, none⟩ (.slice A us.length c)).cell? ⟨w.heap.size, 4, none⟩ = some (.int .i64 mn) := HNF.out.node.cell 4
          have g5 : (wr.setCell ⟨w.heap.size, 3, none⟩ (.slice A us.length c)).cell? ⟨w.heap.size, 5, none⟩ = some (.int .i64 mx) := HNF.out.node.cell 5
          have g6 : (wr.setCell ⟨w.heap.size, 3, none⟩ (.slice A us.length c)).cell? ⟨w.heap.size, 6, none⟩ = some (.bool z) := HNF.out.node.cell 6
          have g7 : (wr.setCell ⟨w.heap.size, 3, none⟩ (.slice A us.length c)).cell? ⟨w.heap.size, 7, none⟩ = some (.int .i64 ix) := HNF.out.node.cell 7
          have g8 : (wr.setCell ⟨w.heap.size, 3, none⟩ (.slice A us.length c)).cell? ⟨w.heap.size, 8, none⟩ = some (.string nm) := HNF.out.node.cell 8
          have q0 := HNF.out.res.cell 0
          have fz0 := HNF.out.res.frozen 0
          have q1 := HNF.out.res.cell 1
          have fz1 := HNF.out.res.frozen 1
          have q2 := HNF.out.res.cell 2
          have fz2 := HNF.out.res.frozen 2
          have q3 := HNF.out.res.cell 3
          have fz3 := HNF.out.res.frozen 3
          have q4 := HNF.out.res.cell 4
          have fz4 := HNF.out.res.frozen 4
          have q5 := HNF.out.res.cell 5
          have fz5 := HNF.out.res.frozen 5
          have q6 := HNF.out.res.cell 6
          have fz6 := HNF.out.res.frozen 6
          have q7 := HNF.out.res.cell 7
          have fz7 := HNF.out.res.frozen 7
          have q8 := HNF.out.res.cell 8
          have fz8 := HNF.out.res.frozen 8
          have fz9 := HNF.out.res.lt
          simp only [List.getElem?_cons_zero, List.getElem?_cons_succ] at q0 q1 q2 q3 q4 q5 q6 q7 q8
          obtain ⟨hres, hK⟩ := HNF.out.res9 (.int .i64 k) (.slice ra r.length rc) (.int .i64 ast) (.slice A us.length c) (.int .i64 mn) (.int .i64 mx) (.bool z) (.int .i64 ix) (.string nm)
          have HRES := Lib.hid hres
          have HK := Lib.hid hK
          have HUL := Lib.hid hul
          clear hres hK hss hul
          go_wp2_with fail
          generalize ((((((((((wr.setCell ⟨w.heap.size, 3, none⟩ (.slice A us.length c)).setCell ⟨w.heap.size + 1, 0, none⟩ (.int .i64 k)).setCell ⟨w.heap.size + 1, 1, none⟩ (.slice ra r.length rc)).setCell ⟨w.heap.size + 1, 2, none⟩ (.int .i64 ast)).setCell ⟨w.heap.size + 1, 3, none⟩ (.slice A us.length c)).setCell ⟨w.heap.size + 1, 4, none⟩ (.int .i64 mn)).setCell ⟨w.heap.size + 1, 5, none⟩ (.int .i64 mx)).setCell ⟨w.heap.size + 1, 6, none⟩ (.bool z)).setCell ⟨w.heap.size + 1, 7, none⟩ (.int .i64 ix)).setCell ⟨w.heap.size + 1, 8, none⟩ (.string nm)) = wf at *
          refine bodyPost_ret (node_retM rfl _ _ (w.heap.size + 1) (Ta.mk k r ra rc ast us A c mn mx z ix nm) rfl HRES.out) rfl ?_
          have h1 := HNR.out.res.lt
          have hk2 := HK1.out.trans HK.out
          refine ⟨Ta.mk k r ra rc ast us A c mn mx z ix nm, rfl, by rw [HTK.out, Ta.tr, HUT.out, List.take_length], ?_, Below.kept HNR.out.below hk2 (by intro b hb; simp at hb; omega) HNR.out.below.size⟩
          refine ((HRT.out.go fun b hb => hk2.block b ?_ fun hm => ?_).mono fun b hb => ?_)
          · rcases hb with hb | hb
            · exact Nat.lt_of_lt_of_le (HSS.out b hb) HNR.out.below.size
            · exact hb.2.1
          · simp only [List.cons_append, List.nil_append, List.mem_cons, List.not_mem_nil, or_false] at hm
            rcases hb with hb | hb
            · have := HSS.out b hb; omega
            · have := hb.1; omega
          · exact hb.imp id fun hb => ⟨by have := hb.1; omega, Nat.lt_of_lt_of_le hb.2.1 hk2.size, by simp⟩
end Go.Proofs.Ytjeljlgjkjeloaa
