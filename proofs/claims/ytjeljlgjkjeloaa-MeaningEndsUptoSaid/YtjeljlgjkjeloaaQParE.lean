/- meaning.Parses: the errors. -/
import Derived.Test.YtjeljlgjkjeloaaQParW
import Derived.Test.YtjeljlgjkjeloaaQUfA
import Derived.Test.YtjeljlgjkjeloaaQMulW
import Derived.Test.YtjeljlgjkjeloaaQMGrt
import Derived.Test.YtjeljlgjkjeloaaQName
import Derived.Test.YtjeljlgjkjeloaaQSimp
namespace Go.Proofs.Ytjeljlgjkjeloaa
open Go.RowKit Go.Proofs.Ytjeljlgjkjeloaa.Tr

/-- What Parses says of what it is asked. -/
def parE (t : Tr.Tr) (n : Nat) (at_ : Int) : Int := if 64 < n then 2 else if soundB t = false then 50 else if 2000 < uz t then 3 else if at_ < 0 ∨ (n : Int) < at_ then 1 else 0
theorem sound_parts {t : Tr.Tr} (h : soundB t = true) : allB t = true := (sound_all h).1
set_option maxRecDepth 100000 in
set_option maxHeartbeats 4000000 in
theorem parses_err (k : Int) (r : List (Int × Int)) (ra : Option Addr) (rc : Nat) (ast : Int) (l : List Ta) (sa : Option Addr) (sc : Nat) (mn mx : Int) (z : Bool) (ix : Int) (nm : ByteArray) (S : Nat → Prop) (At : Option Addr) (n c : Nat) (at_ : Int) (w : World) (h : RT w S (Ta.mk k r ra rc ast l sa sc mn mx z ix nm)) (hS : ∀ b, S b → b < w.heap.size) (hn : n ≤ c) (he : parE (Ta.mk k r ra rc ast l sa sc mn mx z ix nm).tr n at_ ≠ 0) :
    Calls Try.prog 11 #[(Ta.mk k r ra rc ast l sa sc mn mx z ix nm).val, .slice At n c, .int .i64 at_] w fun e w' => e = .returned (.tuple #[.slice none 0 0, .int .i64 (parE (Ta.mk k r ra rc ast l sa sc mn mx z ix nm).tr n at_)]) ∧ Below w.heap.size w w' := by
  have hb1 : Below w.heap.size w ((w.alloc (.cells #[.int .i64 k, .slice ra r.length rc, .int .i64 ast, .slice sa l.length sc, .int .i64 mn, .int .i64 mx, .bool z, .int .i64 ix, .string nm] 28)).alloc (.cells #[.int .i64 at_] 3)) := ((Below.refl _ _).alloc (Nat.le_refl _) _).alloc (by simp) _
  have hbk := (Blk.new w 28 [.int .i64 k, .slice ra r.length rc, .int .i64 ast, .slice sa l.length sc, .int .i64 mn, .int .i64 mx, .bool z, .int .i64 ix, .string nm]).alloc (.cells #[.int .i64 at_] 3)
  have hba : Blk ((w.alloc (.cells #[.int .i64 k, .slice ra r.length rc, .int .i64 ast, .slice sa l.length sc, .int .i64 mn, .int .i64 mx, .bool z, .int .i64 ix, .string nm] 28)).alloc (.cells #[.int .i64 at_] 3)) (w.heap.size + 1) 3 [.int .i64 at_] := by
    have := Blk.new (w.alloc (.cells #[.int .i64 k, .slice ra r.length rc, .int .i64 ast, .slice sa l.length sc, .int .i64 mn, .int .i64 mx, .bool z, .int .i64 ix, .string nm] 28)) 3 [.int .i64 at_]
    rwa [show (w.alloc (.cells #[.int .i64 k, .slice ra r.length rc, .int .i64 ast, .slice sa l.length sc, .int .i64 mn, .int .i64 mx, .bool z, .int .i64 ix, .string nm] 28)).heap.size = w.heap.size + 1 from by simp] at this
  have t0 : ((w.alloc (.cells #[.int .i64 k, .slice ra r.length rc, .int .i64 ast, .slice sa l.length sc, .int .i64 mn, .int .i64 mx, .bool z, .int .i64 ix, .string nm] 28)).alloc (.cells #[.int .i64 at_] 3)).cell? ⟨w.heap.size, 0, none⟩ = some (.int .i64 k) := hbk.cell 0
  have t1 : ((w.alloc (.cells #[.int .i64 k, .slice ra r.length rc, .int .i64 ast, .slice sa l.length sc, .int .i64 mn, .int .i64 mx, .bool z, .int .i64 ix, .string nm] 28)).alloc (.cells #[.int .i64 at_] 3)).cell? ⟨w.heap.size, 1, none⟩ = some (.slice ra r.length rc) := hbk.cell 1
  have t2 : ((w.alloc (.cells #[.int .i64 k, .slice ra r.length rc, .int .i64 ast, .slice sa l.length sc, .int .i64 mn, .int .i64 mx, .bool z, .int .i64 ix, .string nm] 28)).alloc (.cells #[.int .i64 at_] 3)).cell? ⟨w.heap.size, 2, none⟩ = some (.int .i64 ast) := hbk.cell 2
  have t3 : ((w.alloc (.cells #[.int .i64 k, .slice ra r.length rc, .int .i64 ast, .slice sa l.length sc, .int .i64 mn, .int .i64 mx, .bool z, .int .i64 ix, .string nm] 28)).alloc (.cells #[.int .i64 at_] 3)).cell? ⟨w.heap.size, 3, none⟩ = some (.slice sa l.length sc) := hbk.cell 3
  have t4 : ((w.alloc (.cells #[.int .i64 k, .slice ra r.length rc, .int .i64 ast, .slice sa l.length sc, .int .i64 mn, .int .i64 mx, .bool z, .int .i64 ix, .string nm] 28)).alloc (.cells #[.int .i64 at_] 3)).cell? ⟨w.heap.size, 4, none⟩ = some (.int .i64 mn) := hbk.cell 4
  have t5 : ((w.alloc (.cells #[.int .i64 k, .slice ra r.length rc, .int .i64 ast, .slice sa l.length sc, .int .i64 mn, .int .i64 mx, .bool z, .int .i64 ix, .string nm] 28)).alloc (.cells #[.int .i64 at_] 3)).cell? ⟨w.heap.size, 5, none⟩ = some (.int .i64 mx) := hbk.cell 5
  have t6 : ((w.alloc (.cells #[.int .i64 k, .slice ra r.length rc, .int .i64 ast, .slice sa l.length sc, .int .i64 mn, .int .i64 mx, .bool z, .int .i64 ix, .string nm] 28)).alloc (.cells #[.int .i64 at_] 3)).cell? ⟨w.heap.size, 6, none⟩ = some (.bool z) := hbk.cell 6
  have t7 : ((w.alloc (.cells #[.int .i64 k, .slice ra r.length rc, .int .i64 ast, .slice sa l.length sc, .int .i64 mn, .int .i64 mx, .bool z, .int .i64 ix, .string nm] 28)).alloc (.cells #[.int .i64 at_] 3)).cell? ⟨w.heap.size, 7, none⟩ = some (.int .i64 ix) := hbk.cell 7
  have t8 : ((w.alloc (.cells #[.int .i64 k, .slice ra r.length rc, .int .i64 ast, .slice sa l.length sc, .int .i64 mn, .int .i64 mx, .bool z, .int .i64 ix, .string nm] 28)).alloc (.cells #[.int .i64 at_] 3)).cell? ⟨w.heap.size, 8, none⟩ = some (.string nm) := hbk.cell 8
  have HT := Lib.hid h
  have HS := Lib.hid hS
  have HB1 := Lib.hid hb1
  have HBK := Lib.hid hbk
  have HBA := Lib.hid hba
  obtain ⟨E, hE⟩ : ∃ E, E = parE (Ta.mk k r ra rc ast l sa sc mn mx z ix nm).tr n at_ := ⟨_, rfl⟩
  rw [← hE] at he ⊢
  have HSO := Lib.hid (pSound_any (Ta.mk k r ra rc ast l sa sc mn mx z ix nm) S)
  have HSI := Lib.hid (msize_any (Ta.mk k r ra rc ast l sa sc mn mx z ix nm) S)
  simp only [Ta.val, Ta.vals] at HSO HSI ⊢
  obtain ⟨tt, htt⟩ : ∃ tt, tt = (Ta.mk k r ra rc ast l sa sc mn mx z ix nm).tr := ⟨_, rfl⟩
  rw [← htt] at HSO HSI hE
  have HTT := Lib.hid htt
  have HE := Lib.hid hE
  clear h hS hb1 hbk hba htt hE
  go_enter Try.func11, Try.ntmps11
  by_cases h1 : 64 < n
  · have h1i : (64 : Int) < (n : Int) := by omega
    have HEE := Lib.hid (show E = 2 from by rw [HE.out, parE, if_pos h1])
    go_wp2_with fail
    go_ret2
    exact ⟨by rw [HEE.out]; rfl, HB1.out⟩
  have h1i : ¬ ((64 : Int) < (n : Int)) := by omega
  go_wp2_with fail
  generalize ((w.alloc (.cells #[.int .i64 k, .slice ra r.length rc, .int .i64 ast, .slice sa l.length sc, .int .i64 mn, .int .i64 mx, .bool z, .int .i64 ix, .string nm] 28)).alloc (.cells #[.int .i64 at_] 3)) = w1 at *
  refine (HSO.out w1 (HT.out.below HS.out HB1.out) (fun b hb => Nat.lt_of_lt_of_le (HS.out b hb) HB1.out.size)).mono ?_
  rintro e w2 ⟨rfl, hb2⟩
  have hlt0 := HBK.out.lt
  have s0 : w2.cell? ⟨w.heap.size, 0, none⟩ = some (.int .i64 k) := (hb2.cell (p := ⟨w.heap.size, 0, none⟩) hlt0).trans t0
  have s1 : w2.cell? ⟨w.heap.size, 1, none⟩ = some (.slice ra r.length rc) := (hb2.cell (p := ⟨w.heap.size, 1, none⟩) hlt0).trans t1
  have s2 : w2.cell? ⟨w.heap.size, 2, none⟩ = some (.int .i64 ast) := (hb2.cell (p := ⟨w.heap.size, 2, none⟩) hlt0).trans t2
  have s3 : w2.cell? ⟨w.heap.size, 3, none⟩ = some (.slice sa l.length sc) := (hb2.cell (p := ⟨w.heap.size, 3, none⟩) hlt0).trans t3
  have s4 : w2.cell? ⟨w.heap.size, 4, none⟩ = some (.int .i64 mn) := (hb2.cell (p := ⟨w.heap.size, 4, none⟩) hlt0).trans t4
  have s5 : w2.cell? ⟨w.heap.size, 5, none⟩ = some (.int .i64 mx) := (hb2.cell (p := ⟨w.heap.size, 5, none⟩) hlt0).trans t5
  have s6 : w2.cell? ⟨w.heap.size, 6, none⟩ = some (.bool z) := (hb2.cell (p := ⟨w.heap.size, 6, none⟩) hlt0).trans t6
  have s7 : w2.cell? ⟨w.heap.size, 7, none⟩ = some (.int .i64 ix) := (hb2.cell (p := ⟨w.heap.size, 7, none⟩) hlt0).trans t7
  have s8 : w2.cell? ⟨w.heap.size, 8, none⟩ = some (.string nm) := (hb2.cell (p := ⟨w.heap.size, 8, none⟩) hlt0).trans t8
  have HB2 := Lib.hid (HB1.out.trans (hb2.mono HB1.out.size))
  have HBA2 := Lib.hid (HBA.out.below hb2 HBA.out.lt)
  have HBK2 := Lib.hid (HBK.out.below hb2 hlt0)
  clear hb2 hlt0 t0 t1 t2 t3 t4 t5 t6 t7 t8
  cases hso : soundB tt with
  | false =>
    have HEE := Lib.hid (show E = 50 from by rw [HE.out, parE, if_neg h1, if_pos hso])
    unfold sv
    rw [hso]
    simp only []
    go_wp2_with fail
    go_ret2
    exact ⟨by rw [HEE.out]; rfl, HB2.out⟩
  | true =>
  unfold sv
  rw [hso]
  simp only []
  have HALL := Lib.hid (sound_parts hso)
  go_wp2_with fail
  refine (HSI.out w2 (HT.out.below HS.out HB2.out) HALL.out (fun b hb => Nat.lt_of_lt_of_le (HS.out b hb) HB2.out.size)).mono ?_
  rintro e w3 ⟨rfl, hb3⟩
  have HB3 := Lib.hid (HB2.out.trans (hb3.mono HB2.out.size))
  have ra : w3.cell? ⟨w.heap.size + 1, 0, none⟩ = some (.int .i64 at_) := (HBA2.out.below hb3 HBA2.out.lt).cell 0
  clear hb3 s0 s1 s2 s3 s4 s5 s6 s7 s8
  by_cases h2 : 2000 < uz tt
  · have HEE := Lib.hid (show E = 3 from by rw [HE.out, parE, if_neg h1, if_neg (by rw [hso]; simp), if_pos h2])
    obtain ⟨q, hq⟩ : ∃ q : Nat, q = min (uz tt) 2001 := ⟨_, rfl⟩
    rw [← hq]
    have hq2 : (2000 : Int) < (q : Int) := by omega
    clear hq
    simp only []
    go_wp2_with fail
    go_ret2
    exact ⟨by rw [HEE.out]; rfl, HB3.out⟩
  have HEE := Lib.hid (show E = 1 ∧ (at_ < 0 ∨ (n : Int) < at_) from by
    have h := HE.out
    rw [parE, if_neg h1, if_neg (by rw [hso]; simp), if_neg h2] at h
    split at h
    · exact ⟨h, by assumption⟩
    · exact absurd h he)
  obtain ⟨q, hq⟩ : ∃ q : Nat, q = min (uz tt) 2001 := ⟨_, rfl⟩
  rw [← hq]
  have hq2 : ¬ ((2000 : Int) < (q : Int)) := by omega
  clear hq
  simp only []
  by_cases h3 : at_ < 0
  · go_wp2_with fail
    go_ret2
    exact ⟨by rw [HEE.out.1]; rfl, HB3.out⟩
  · have h4 : (n : Int) < at_ := HEE.out.2.resolve_left h3
    go_wp2_with fail
    go_ret2
    exact ⟨by rw [HEE.out.1]; rfl, HB3.out⟩
end Go.Proofs.Ytjeljlgjkjeloaa
/- The greatest Index of a sound tree is a small number. No program here. -/
namespace Go.Proofs.Ytjeljlgjkjeloaa
open Go.Proofs.Ytjeljlgjkjeloaa.Tr

theorem node_ix {k : Int} {r : List (Int × Int)} {a n m : Int} {z : Bool} {i : Int} {s : ByteArray} {q : Nat} (h : nodeF k r a q n m z i s = true) : 0 ≤ i ∧ i ≤ 500 := by
  have hz : ∀ (r : List (Int × Int)) (a n m : Int) (z : Bool) (i : Int) (s : ByteArray), zeroB r a n m z i s = true → i = 0 := fun r a n m z i s h => by
    unfold zeroB at h
    simp only [Bool.and_eq_true, beq_iff_eq] at h
    exact h.2.2.2.2.2.1
  unfold nodeF at h
  by_cases k1 : k = 1
  · rw [if_pos k1, Bool.and_eq_true] at h; have := hz _ _ _ _ _ _ _ h.1; omega
  rw [if_neg k1] at h
  by_cases k2 : k = 2
  · rw [if_pos k2, Bool.and_eq_true] at h; have := hz _ _ _ _ _ _ _ h.1; omega
  rw [if_neg k2] at h
  by_cases k3 : k = 3
  · rw [if_pos k3, Bool.and_eq_true] at h; have := hz _ _ _ _ _ _ _ h.1; omega
  rw [if_neg k3] at h
  by_cases k4 : k = 4
  · rw [if_pos k4, Bool.and_eq_true] at h; have := hz _ _ _ _ _ _ _ h.1; omega
  rw [if_neg k4] at h
  by_cases k5 : k = 5
  · rw [if_pos k5, Bool.and_eq_true] at h; have := hz _ _ _ _ _ _ _ h.1; omega
  rw [if_neg k5] at h
  by_cases k6 : k = 6
  · rw [if_pos k6, Bool.and_eq_true] at h; have := hz _ _ _ _ _ _ _ h.1; omega
  rw [if_neg k6] at h
  by_cases k7 : k = 7
  · rw [if_pos k7] at h
    simp only [Bool.and_eq_true, beq_iff_eq, decide_eq_true_eq] at h
    omega
  · rw [if_neg k7] at h; cases h
mutual
theorem grt_bd : ∀ t : Tr.Tr, allB t = true → 0 ≤ greatest t ∧ greatest t ≤ 500
  | .mk k r a l n m z i s, h => by
    obtain ⟨hnb, hsub⟩ := (allB_iff _).1 h
    have hi := node_ix hnb
    rw [greatest]
    exact ⟨Int.le_trans hi.1 (greatests_ge l i).1, greatests_le l i 500 hi.2 fun t ht => (grts_bd l hsub t ht).2⟩
theorem grts_bd : ∀ l : List Tr.Tr, (∀ u ∈ l, allB u = true) → ∀ u ∈ l, 0 ≤ greatest u ∧ greatest u ≤ 500
  | [], _ => fun u hu => by cases hu
  | t :: l, h => fun u hu => by
    rcases List.mem_cons.1 hu with e | hu
    · rw [e]; exact grt_bd t (h t List.mem_cons_self)
    · exact grts_bd l (fun v hv => h v (List.mem_cons_of_mem _ hv)) u hu
end
end Go.Proofs.Ytjeljlgjkjeloaa
/- meaning.Parses: the walk from its start to its end, in memory. -/
namespace Go.Proofs.Ytjeljlgjkjeloaa
open Go.RowKit Go.Proofs.Ytjeljlgjkjeloaa.Tr

/-- What the walk leaves in the box of what came out. -/
def Came (t : List Int) (at_ g0 o : Nat) (u : Mean.Un) (w' : World) : Prop :=
  ∃ (A : Option Addr) (oc : Nat) (ps : List (Nat × Option Addr × Nat × List Int)) (s' : Mean.St), Mean.One t at_ st0 (.beg u at_ (List.replicate (2 + 2 * g0) (-1)) .top) s' ∧ s'.out = ps.map (fun p => (p.1, p.2.2.2)) ∧
    w'.cell? ⟨o, 0, none⟩ = some (.slice A ps.length oc) ∧ Reads w' w'.heap.size 2 A ps.length oc (outW ps) ∧ (∀ p ∈ ps, Reads w' w'.heap.size 1 p.2.1 p.2.2.2.length p.2.2.1 (p.2.2.2.map (Value.int .i64)) ∧ p.2.2.2.length = 2 + 2 * g0) ∧ (s'.out.map (·.1)).Nodup ∧ ∀ p ∈ s'.out, p.1 ≤ t.length
theorem parses_walk {B n c g0 at_ o nb : Nat} {At : Option Addr} {t : List Int} {tr : Tr.Tr} {u : Mean.Un} {S T : Nat → Prop} {w : World}
    (hso : soundB tr = true) (hz : uz tr ≤ 2000) (hg : greatest tr = (g0 : Int)) (hg5 : g0 ≤ 500) (hsh : shU u = unfS tr) (hat : at_ ≤ n) (hn : n ≤ 64) (htl : t.length = n)
    (hB : B + 1 < o) (hm : w.heap[o + 1]? = some (.map #[] 0)) (hob : Blk w o 35 [.slice none 0 0]) (hwb : Blk w (o + 1 + 1) 56 [.slice At n c, .map (some (o + 1))])
    (hab : w.cell? ⟨B + 1, 0, none⟩ = some (.int .i64 (at_ : Int))) (htx : RdA w S 1 At n c (t.map (Value.int .i64))) (hS : ∀ b, S b → b < B) (hut : UT w S T u) (hT : ∀ b, T b → b < w.heap.size ∧ o + 1 + 1 < b)
    (hnb : Blk w nb 3 (List.replicate (2 + 2 * g0) (.int .i64 (-1)))) (hno : o + 1 + 1 < nb) :
    Calls Try.prog 27 #[.pointer (some ⟨o + 1 + 1, 0, none⟩), .pointer (some ⟨u.ad, 0, none⟩), .int .i64 (at_ : Int), .slice (some ⟨nb, 0, none⟩) (2 + 2 * g0) (2 + 2 * g0), .func (Fn.func 29) #[] #[.pointer (some ⟨o, 0, none⟩), .pointer (some ⟨B + 1, 0, none⟩)]] w fun e w' =>
      e = .returned (.tuple #[]) ∧ Below o w w' ∧ Came t at_ g0 o u w' := by
  obtain ⟨hall, hdp, -⟩ := sound_all hso
  let G : Wk := ⟨o, o + 1 + 1, o + 1, o, B + 1, At, n, c, t, at_, 2 + 2 * g0, u.all⟩
  have hgt : (greatest tr).toNat = g0 := by rw [hg]; rfl
  have hwf : G.wf := wf_start (G := G) rfl hsh hall (by omega) hz (by show 2 + 2 * g0 = _; rw [hgt]) (by omega) htl (by show n ≤ _; omega)
  have holt := hob.lt
  have hmlt : o + 1 < w.heap.size := (Array.getElem?_eq_some_iff.1 hm).1
  obtain ⟨hc, hs⟩ := start_ok (G := G) (w := w) (u := u) (S := S) (T := T) rfl hm hob hwb hab (by show o + 1 + 1 ≠ o ∧ B + 1 ≠ o + 1 ∧ B + 1 ≠ o; omega) htx hut
    (fun b hb => by have := hS b hb; show b < w.heap.size ∧ b ≠ o + 1 ∧ b ≠ o; omega) (fun b hb => by have := hT b hb; show b < w.heap.size ∧ b ≠ o + 1 ∧ b ≠ o; omega)
  have hout : outB o w = none := by unfold outB; rw [hob.cell 0]; rfl
  have hst : G.still w nb := ⟨hnb.lt, fun hx => by
    rcases mem_mut.1 hx with e | e | e
    · have e' : nb = o + 1 := e; omega
    · have e' : nb = o := e; omega
    · have e' : outB o w = some nb := e; rw [hout] at e'; cases e'⟩
  have hsz : u.all.length ≤ 40004000 := by
    rw [all_len, hsh]
    have h1 := sz_le tr 10001 hall (by omega)
    have h2 : 2 * 10001 * uz tr ≤ 2 * 10001 * 2000 := Nat.mul_le_mul_left _ hz
    omega
  have hr : RdA w (G.still w) 1 (some ⟨nb, 0, none⟩) G.NL (2 + 2 * g0) ((List.replicate (2 + 2 * g0) (-1 : Int)).map (Value.int .i64)) := by
    refine ⟨Nat.le_refl _, by omega, by rw [List.length_map, List.length_replicate]; show _ = (2 + 2 * g0) * 1; omega, fun h => (by cases h), fun _ => ⟨nb, 0, rfl, hst, fun j v hv => ?_⟩⟩
    rw [Nat.zero_add, hnb.cell j, ← hv, List.map_replicate]
  refine (walk_any (G := G) (u := u) rfl hwf (fun w hw => Nat.le_of_lt hw.ob) hsz hn at_ hat (List.replicate (2 + 2 * g0) (-1)) (by rw [List.length_replicate]) w (some ⟨nb, 0, none⟩) (2 + 2 * g0) hc hs hr).mono ?_
  rintro e w' ⟨rfl, hf, s', h1, hs'⟩
  refine ⟨rfl, hf.kept.below (fun k hk => ?_) (Nat.le_of_lt holt), ?_⟩
  · rcases mem_mut.1 hk with e | e | e
    · have e' : k = o + 1 := e; omega
    · have e' : k = o := e; omega
    · have e' : outB o w = some k := e; rw [hout] at e'; cases e'
  · obtain ⟨-, ⟨v, ps, hb, hown, hps, hrd⟩, -, hnd, hle⟩ := hs'
    obtain ⟨A, oc, rfl⟩ := own_shape hown
    have hlen : s'.out.length = ps.length := by rw [hps, List.length_map]
    rw [hlen] at hown hb
    refine ⟨A, oc, ps, s', h1, hps, hb.cell 0, Reads.of_own hown, fun p hp => ?_, hnd, fun p hp => by rw [htl]; exact hle p hp⟩
    have := hrd p hp
    exact ⟨this.1.reads fun b hb => hb.1, this.2⟩
end Go.Proofs.Ytjeljlgjkjeloaa
