/- heronlaw06.MeaningTurned: true. -/
import Derived.Test.YtjeljlgjkjeloaaQEndsW
import Derived.Test.YtjeljlgjkjeloaaQTurned
import Derived.Test.YtjeljlgjkjeloaaQMay6
import Derived.Test.YtjeljlgjkjeloaaQAwM
import Derived.Deep.RegionHeldLaw
namespace Go.Proofs.Ytjeljlgjkjeloaa
open Go.RowKit Go.Proofs.Ytjeljlgjkjeloaa.Tr

theorem rt_up {w w' : World} {S : Nat → Prop} {t : Ta} (h : RT w S t) (hS : ∀ b, S b → b < w.heap.size) (hb : Below w.heap.size w w') : RT w' (· < w'.heap.size) t :=
  (h.go fun b h => hb.block b (hS b h)).mono fun b h => Nat.lt_of_lt_of_le (hS b h) hb.size
theorem rd_up {w w' : World} {S : Nat → Prop} {size n c : Nat} {A : Option Addr} {xs : List Value} (h : RdA w S size A n c xs) (hS : ∀ b, S b → b < w.heap.size) (hb : Below w.heap.size w w') : RdA w' (· < w'.heap.size) size A n c xs :=
  (h.go fun b h => hb.block b (hS b h)).mono fun b h => Nat.lt_of_lt_of_le (hS b h) hb.size
theorem may_parts {t : Tr.Tr} {n : Nat} {at_ : Int} (h : mayB t n at_ = true) : size t ≤ 200000 ∧ n ≤ 64 ∧ 0 ≤ at_ ∧ at_ ≤ (n : Int) ∧ soundB t = true ∧ uz t ≤ 2000 := by
  unfold mayB at h
  simp only [Bool.and_eq_true, decide_eq_true_eq, Bool.not_eq_true', decide_eq_false_iff_not] at h
  exact ⟨by omega, h.2.1, h.2.2.1, h.2.2.2.1, h.2.2.2.2.1, h.2.2.2.2.2⟩
theorem par_zero {t : Tr.Tr} {n a : Nat} (h1 : n ≤ 64) (h2 : soundB t = true) (h3 : uz t ≤ 2000) (h4 : a ≤ n) : parE t n (a : Int) = 0 := by
  unfold parE
  rw [if_neg (by omega), if_neg (by rw [h2]; simp), if_neg (by omega), if_neg (by omega)]
/-- What Parses leaves. -/
def Left (t : List Int) (a0 : Nat) (tr : Tr.Tr) (w : World) (A : Option Addr) (oc : Nat) (ps : Ps) : Prop :=
  ∃ (u : Mean.Un) (s' : Mean.St), shU u = unfS tr ∧ (u.all.map Mean.Un.ad).Nodup ∧ Mean.One t a0 st0 (.beg u a0 (List.replicate (2 + 2 * (greatest tr).toNat) (-1)) .top) s' ∧ s'.out = ps.map (fun p => (p.1, p.2.2.2)) ∧ Reads w w.heap.size 2 A ps.length oc (outW ps) ∧ (s'.out.map (·.1)).Nodup ∧ ∀ p ∈ ps, p.1 ≤ t.length
theorem parses_left (k : Int) (r : List (Int × Int)) (ra : Option Addr) (rc : Nat) (ast : Int) (l : List Ta) (sa : Option Addr) (sc : Nat) (mn mx : Int) (z : Bool) (ix : Int) (nm : ByteArray) (S : Nat → Prop) (At : Option Addr) (n c a0 : Nat) (t : List Int) (w : World) (h : RT w S (Ta.mk k r ra rc ast l sa sc mn mx z ix nm)) (hS : ∀ b, S b → b < w.heap.size) (hn : n ≤ c) (htx : RdA w S 1 At n c (t.map (Value.int .i64))) (he : parE (Ta.mk k r ra rc ast l sa sc mn mx z ix nm).tr n (a0 : Int) = 0) :
    Calls Try.prog 11 #[(Ta.mk k r ra rc ast l sa sc mn mx z ix nm).val, .slice At n c, .int .i64 (a0 : Int)] w fun e w' => ∃ A oc ps, e = .returned (.tuple #[.slice A ps.length oc, .int .i64 0]) ∧ Below w.heap.size w w' ∧ Left t a0 (Ta.mk k r ra rc ast l sa sc mn mx z ix nm).tr w' A oc ps := by
  refine (parses_ok k r ra rc ast l sa sc mn mx z ix nm S At n c a0 t w h hS hn htx he).mono ?_
  rintro e w' ⟨A, oc, ps, u, s', rfl, hb, h1, h2, h3, h4, h5, -, h6, h7⟩
  exact ⟨A, oc, ps, rfl, hb, u, s', h1, h2, h3, h4, h5, h6, fun p hp => h7 (p.1, p.2.2.2) (by rw [h4]; exact List.mem_map.2 ⟨p, hp, rfl⟩)⟩
theorem ends2 (A : Option Addr) (o n m : Nat) (ps : Ps) (w : World) (h : Reads w w.heap.size 2 A ps.length o (outW ps)) (hle : ∀ p ∈ ps, p.1 ≤ n) (hn : n ≤ 64) (hps : ps.length ≤ 65) (hm : ps.length = m) :
    Calls Try.prog 14 #[.slice A m o, .int .i64 (n : Int)] w fun e w' => e = .returned (.slice (some ⟨w.heap.size, 0, none⟩) (n + 1) (n + 1)) ∧ Below w.heap.size w w' ∧ Blk w' w.heap.size 4 (bls (endsL ps n)) := by
  subst hm
  exact ends_any A o ps n w h hle (by omega) (by omega)
theorem alike2 (g1 g2 n : Nat) (p1 p2 : Ps) (w : World) (h1 : Blk w g1 4 (bls (endsL p1 n))) (h2 : Blk w g2 4 (bls (endsL p2 n))) (he : endsL p1 n = endsL p2 n) (hn : n ≤ 64) :
    Calls Try.prog 13 #[.slice (some ⟨g1, 0, none⟩) (n + 1) (n + 1), .slice (some ⟨g2, 0, none⟩) (n + 1) (n + 1)] w fun e w' => e = .returned (.bool true) ∧ Below w.heap.size w w' := by
  have r1 := h1.reads (size := 1) (n := n + 1) (c := n + 1) (Nat.le_refl _) (by omega) (by rw [bls_length, endsL_length]; omega)
  have r2 := h2.reads (size := 1) (n := n + 1) (c := n + 1) (Nat.le_refl _) (by omega) (by rw [bls_length, endsL_length]; omega)
  rw [List.take_of_length_le (by rw [bls_length, endsL_length]; omega)] at r1 r2
  have e1 := endsL_length p1 n
  have e2 := endsL_length p2 n
  have := alike_any (some ⟨g1, 0, none⟩) (some ⟨g2, 0, none⟩) (n + 1) (n + 1) (endsL p1 n) (endsL p2 n) w (by rw [e1]; exact r1) (by rw [e2]; exact r2) (by rw [e1, e2]) (by omega)
  rw [e1, e2, decide_eq_true he] at this
  exact this
theorem parses_ta (u : Ta) (S : Nat → Prop) (At : Option Addr) (n c a0 : Nat) (t : List Int) (w : World) (h : RT w S u) (hS : ∀ b, S b → b < w.heap.size) (hn : n ≤ c) (htx : RdA w S 1 At n c (t.map (Value.int .i64))) (he : parE u.tr n (a0 : Int) = 0) :
    Calls Try.prog 11 #[u.val, .slice At n c, .int .i64 (a0 : Int)] w fun e w' => ∃ A oc ps, e = .returned (.tuple #[.slice A ps.length oc, .int .i64 0]) ∧ Below w.heap.size w w' ∧ Left t a0 u.tr w' A oc ps := by
  cases u with
  | mk k r ra rc ast l sa sc mn mx z ix nm => exact parses_left k r ra rc ast l sa sc mn mx z ix nm S At n c a0 t w h hS hn htx he
theorem left_few {t : List Int} {a0 : Nat} {tr : Tr.Tr} {w : World} {A : Option Addr} {oc : Nat} {ps : Ps} (h : Left t a0 tr w A oc ps) (ht : t.length ≤ 64) : ps.length ≤ 65 := by
  obtain ⟨u, s', -, -, -, h4, -, h6, h7⟩ := h
  rw [fst_out h4] at h6
  have := nodup_le (l' := List.range (t.length + 1)) h6 fun x hx => by
    obtain ⟨p, hp, rfl⟩ := List.mem_map.1 hx
    have := h7 p hp
    exact List.mem_range.2 (by omega)
  rw [List.length_map, List.length_range] at this
  omega
theorem left_all {t : List Int} {a0 : Nat} {tr tr2 : Tr.Tr} {w1 w2 w3 : World} {A1 A2 A3 : Option Addr} {o1 o2 o3 : Nat} {p1 p2 p3 : Ps} (h1 : Left t a0 tr w1 A1 o1 p1) (h2 : Left t a0 tr2 w2 A2 o2 p2) (h3 : Left t a0 (bareS tr) w3 A3 o3 p3) (hso : soundB tr = true) (ha : a0 ≤ t.length) (hT : TurnR tr tr2) (n : Nat) :
    p1.length = p2.length ∧ endsL p1 n = endsL p2 n ∧ p1.map (·.1) = p3.map (·.1) := by
  obtain ⟨u1, a, b1, b2, b3, b4, -, b6, -⟩ := h1
  obtain ⟨u2, b, c1, c2, c3, c4, -, c6, -⟩ := h2
  obtain ⟨u3, c, d1, d2, d3, d4, -, d6, -⟩ := h3
  exact turned_plain hso ha hT b1 c1 d1 b2 c2 d2 b3 c3 d3 b4 c4 d4 b6 c6 n
set_option maxRecDepth 100000 in
set_option maxHeartbeats 8000000 in
theorem turned_law (k : Int) (r : List (Int × Int)) (ra : Option Addr) (rc : Nat) (ast : Int) (l : List Ta) (sa : Option Addr) (sc : Nat) (mn mx : Int) (z : Bool) (ix : Int) (nm : ByteArray) (S : Nat → Prop) (At : Option Addr) (n c : Nat) (at_ : Int) (t : List Int) (R : Option Addr) (rn rcp : Nat) (raw : List Int) (w : World) (h : RT w S (Ta.mk k r ra rc ast l sa sc mn mx z ix nm)) (hS : ∀ b, S b → b < w.heap.size) (htx : RdA w S 1 At n c (t.map (Value.int .i64))) (hraw : RdA w S 1 R rn rcp (raw.map (Value.int .i64))) :
    Calls Try.prog 5 #[(Ta.mk k r ra rc ast l sa sc mn mx z ix nm).val, .agg #[.slice At n c, .int .i64 at_], .slice R rn rcp] w fun e w' => e = .returned (.bool true) ∧ Below w.heap.size w w' := by
  have hb0 : Below w.heap.size w ((w.alloc (.cells #[.int .i64 k, .slice ra r.length rc, .int .i64 ast, .slice sa l.length sc, .int .i64 mn, .int .i64 mx, .bool z, .int .i64 ix, .string nm] 28)).alloc (.cells #[.slice At n c, .int .i64 at_] 31)) := ((Below.refl _ _).alloc (Nat.le_refl _) _).alloc (by simp) _
  have HBL0 := Lib.hid ((Blk.new w 28 [.int .i64 k, .slice ra r.length rc, .int .i64 ast, .slice sa l.length sc, .int .i64 mn, .int .i64 mx, .bool z, .int .i64 ix, .string nm]).alloc (.cells #[.slice At n c, .int .i64 at_] 31))
  have HBX0 := Lib.hid (show Blk ((w.alloc (.cells #[.int .i64 k, .slice ra r.length rc, .int .i64 ast, .slice sa l.length sc, .int .i64 mn, .int .i64 mx, .bool z, .int .i64 ix, .string nm] 28)).alloc (.cells #[.slice At n c, .int .i64 at_] 31)) (w.heap.size + 1) 31 [.slice At n c, .int .i64 at_] from by
    have := Blk.new (w.alloc (.cells #[.int .i64 k, .slice ra r.length rc, .int .i64 ast, .slice sa l.length sc, .int .i64 mn, .int .i64 mx, .bool z, .int .i64 ix, .string nm] 28)) 31 [.slice At n c, .int .i64 at_]
    rwa [show (w.alloc (.cells #[.int .i64 k, .slice ra r.length rc, .int .i64 ast, .slice sa l.length sc, .int .i64 mn, .int .i64 mx, .bool z, .int .i64 ix, .string nm] 28)).heap.size = w.heap.size + 1 from by simp] at this)
  have xr0 : ((w.alloc (.cells #[.int .i64 k, .slice ra r.length rc, .int .i64 ast, .slice sa l.length sc, .int .i64 mn, .int .i64 mx, .bool z, .int .i64 ix, .string nm] 28)).alloc (.cells #[.slice At n c, .int .i64 at_] 31)).cell? ⟨w.heap.size, 0, none⟩ = some (.int .i64 k) := HBL0.out.cell 0
  have xr1 : ((w.alloc (.cells #[.int .i64 k, .slice ra r.length rc, .int .i64 ast, .slice sa l.length sc, .int .i64 mn, .int .i64 mx, .bool z, .int .i64 ix, .string nm] 28)).alloc (.cells #[.slice At n c, .int .i64 at_] 31)).cell? ⟨w.heap.size, 1, none⟩ = some (.slice ra r.length rc) := HBL0.out.cell 1
  have xr2 : ((w.alloc (.cells #[.int .i64 k, .slice ra r.length rc, .int .i64 ast, .slice sa l.length sc, .int .i64 mn, .int .i64 mx, .bool z, .int .i64 ix, .string nm] 28)).alloc (.cells #[.slice At n c, .int .i64 at_] 31)).cell? ⟨w.heap.size, 2, none⟩ = some (.int .i64 ast) := HBL0.out.cell 2
  have xr3 : ((w.alloc (.cells #[.int .i64 k, .slice ra r.length rc, .int .i64 ast, .slice sa l.length sc, .int .i64 mn, .int .i64 mx, .bool z, .int .i64 ix, .string nm] 28)).alloc (.cells #[.slice At n c, .int .i64 at_] 31)).cell? ⟨w.heap.size, 3, none⟩ = some (.slice sa l.length sc) := HBL0.out.cell 3
  have xr4 : ((w.alloc (.cells #[.int .i64 k, .slice ra r.length rc, .int .i64 ast, .slice sa l.length sc, .int .i64 mn, .int .i64 mx, .bool z, .int .i64 ix, .string nm] 28)).alloc (.cells #[.slice At n c, .int .i64 at_] 31)).cell? ⟨w.heap.size, 4, none⟩ = some (.int .i64 mn) := HBL0.out.cell 4
  have xr5 : ((w.alloc (.cells #[.int .i64 k, .slice ra r.length rc, .int .i64 ast, .slice sa l.length sc, .int .i64 mn, .int .i64 mx, .bool z, .int .i64 ix, .string nm] 28)).alloc (.cells #[.slice At n c, .int .i64 at_] 31)).cell? ⟨w.heap.size, 5, none⟩ = some (.int .i64 mx) := HBL0.out.cell 5
  have xr6 : ((w.alloc (.cells #[.int .i64 k, .slice ra r.length rc, .int .i64 ast, .slice sa l.length sc, .int .i64 mn, .int .i64 mx, .bool z, .int .i64 ix, .string nm] 28)).alloc (.cells #[.slice At n c, .int .i64 at_] 31)).cell? ⟨w.heap.size, 6, none⟩ = some (.bool z) := HBL0.out.cell 6
  have xr7 : ((w.alloc (.cells #[.int .i64 k, .slice ra r.length rc, .int .i64 ast, .slice sa l.length sc, .int .i64 mn, .int .i64 mx, .bool z, .int .i64 ix, .string nm] 28)).alloc (.cells #[.slice At n c, .int .i64 at_] 31)).cell? ⟨w.heap.size, 7, none⟩ = some (.int .i64 ix) := HBL0.out.cell 7
  have xr8 : ((w.alloc (.cells #[.int .i64 k, .slice ra r.length rc, .int .i64 ast, .slice sa l.length sc, .int .i64 mn, .int .i64 mx, .bool z, .int .i64 ix, .string nm] 28)).alloc (.cells #[.slice At n c, .int .i64 at_] 31)).cell? ⟨w.heap.size, 8, none⟩ = some (.string nm) := HBL0.out.cell 8
  have xra : ((w.alloc (.cells #[.int .i64 k, .slice ra r.length rc, .int .i64 ast, .slice sa l.length sc, .int .i64 mn, .int .i64 mx, .bool z, .int .i64 ix, .string nm] 28)).alloc (.cells #[.slice At n c, .int .i64 at_] 31)).cell? ⟨w.heap.size + 1, 0, none⟩ = some (.slice At n c) := HBX0.out.cell 0
  have xrb : ((w.alloc (.cells #[.int .i64 k, .slice ra r.length rc, .int .i64 ast, .slice sa l.length sc, .int .i64 mn, .int .i64 mx, .bool z, .int .i64 ix, .string nm] 28)).alloc (.cells #[.slice At n c, .int .i64 at_] 31)).cell? ⟨w.heap.size + 1, 1, none⟩ = some (.int .i64 at_) := HBX0.out.cell 1
  have HB0 := Lib.hid hb0
  have hn := htx.1
  have hc := htx.2.1
  have htl : t.length = n := by have := htx.2.2.1; rw [List.length_map] at this; omega
  have hde := fun (w' : World) (hb : Below w.heap.size w w') => deep_any (Ta.mk k r ra rc ast l sa sc mn mx z ix nm) (· < w'.heap.size) w' (rt_up h hS hb) (fun b hb => hb)
  have hmu := fun (w' : World) (hb : Below w.heap.size w w') => much_any k r ra rc ast l sa sc mn mx z ix nm (· < w'.heap.size) At n c w' (rt_up h hS hb) (fun b hb => hb) hn hc
  have hma := fun (w' : World) (hb : Below w.heap.size w w') => may6_any k r ra rc ast l sa sc mn mx z ix nm (· < w'.heap.size) At n c at_ w' (rt_up h hS hb) (fun b hb => hb) hn hc
  have hpa := fun (w' : World) (hb : Below w.heap.size w w') (a0 : Nat) => parses_left k r ra rc ast l sa sc mn mx z ix nm (· < w'.heap.size) At n c a0 t w' (rt_up h hS hb) (fun b hb => hb) hn (rd_up htx hS hb)
  have htu := fun (w' : World) (hb : Below w.heap.size w w') => turned_any (Ta.mk k r ra rc ast l sa sc mn mx z ix nm) (· < w'.heap.size) w' R rn rcp raw 0 (rt_up h hS hb) (fun b hb => hb) (rd_up hraw hS hb)
  have hba := fun (w' : World) (hb : Below w.heap.size w w') => mbare_any (Ta.mk k r ra rc ast l sa sc mn mx z ix nm) (· < w'.heap.size) w' (rt_up h hS hb)
  have hpx := fun (w' : World) (hb : Below w.heap.size w w') => rd_up htx hS hb
  simp only [Ta.val, Ta.vals] at hde hmu hma hpa
  obtain ⟨tt, htt⟩ : ∃ tt, tt = (Ta.mk k r ra rc ast l sa sc mn mx z ix nm).tr := ⟨_, rfl⟩
  rw [← htt] at hde hma hpa
  have hba2 : ∀ (w' : World), Below w.heap.size w w' → allB tt = true → Calls Try.prog 17 #[.agg #[.int .i64 k, .slice ra r.length rc, .int .i64 ast, .slice sa l.length sc, .int .i64 mn, .int .i64 mx, .bool z, .int .i64 ix, .string nm]] w' fun e w'' => ∃ u : Ta, e = .returned u.val ∧ u.tr = bareS tt ∧ RT w'' (Sx (· < w'.heap.size) w'.heap.size [] w'') u ∧ Below w'.heap.size w' w'' := fun w' hb ha => by
    have := hba w' hb (by rw [← htt]; exact ha) (fun b hb => hb)
    rw [← htt] at this
    exact this
  have htu2 : ∀ (w' : World), Below w.heap.size w w' → size tt ≤ 200000 → Calls Try.prog 16 #[.agg #[.int .i64 k, .slice ra r.length rc, .int .i64 ast, .slice sa l.length sc, .int .i64 mn, .int .i64 mx, .bool z, .int .i64 ix, .string nm], .slice R rn rcp, .int .i64 0] w' fun e w'' => ∃ (u : Ta) (m : Int), e = .returned (.tuple #[u.val, .int .i64 m]) ∧ TurnR tt u.tr ∧ RT w'' (Sx (· < w'.heap.size) w'.heap.size [] w'') u ∧ Below w'.heap.size w' w'' := fun w' hb ha => by
    have := htu w' hb (by rw [← htt]; omega)
    refine this.mono fun e w'' ⟨u, h1, h2, h3, h4⟩ => ⟨u, _, h1, by rw [htt]; exact h2, h3, h4⟩
  have HDE := Lib.hid hde
  have HMU := Lib.hid hmu
  have HMA := Lib.hid hma
  have HPA := Lib.hid hpa
  have HTU := Lib.hid htu2
  have HBA := Lib.hid hba2
  have HPX := Lib.hid hpx
  have HTL := Lib.hid htl
  simp only [Ta.val, Ta.vals]
  clear h hS hb0 htt hde hmu hma hpa htu hba htu2 hba2 hpx htl htx hraw
  go_enter Try.func5, Try.ntmps5
  go_wp2_with fail
  generalize ((w.alloc (.cells #[.int .i64 k, .slice ra r.length rc, .int .i64 ast, .slice sa l.length sc, .int .i64 mn, .int .i64 mx, .bool z, .int .i64 ix, .string nm] 28)).alloc (.cells #[.slice At n c, .int .i64 at_] 31)) = w0 at *
  refine (HDE.out w0 HB0.out).mono ?_
  rintro e w2 ⟨rfl, hb2⟩
  have HB2 := Lib.hid (HB0.out.trans (hb2.mono HB0.out.size))
  have HBL2 := Lib.hid (HBL0.out.below hb2 HBL0.out.lt)
  have HBX2 := Lib.hid (HBX0.out.below hb2 HBX0.out.lt)
  have xs0 : w2.cell? ⟨w.heap.size, 0, none⟩ = some (.int .i64 k) := HBL2.out.cell 0
  have xs1 : w2.cell? ⟨w.heap.size, 1, none⟩ = some (.slice ra r.length rc) := HBL2.out.cell 1
  have xs2 : w2.cell? ⟨w.heap.size, 2, none⟩ = some (.int .i64 ast) := HBL2.out.cell 2
  have xs3 : w2.cell? ⟨w.heap.size, 3, none⟩ = some (.slice sa l.length sc) := HBL2.out.cell 3
  have xs4 : w2.cell? ⟨w.heap.size, 4, none⟩ = some (.int .i64 mn) := HBL2.out.cell 4
  have xs5 : w2.cell? ⟨w.heap.size, 5, none⟩ = some (.int .i64 mx) := HBL2.out.cell 5
  have xs6 : w2.cell? ⟨w.heap.size, 6, none⟩ = some (.bool z) := HBL2.out.cell 6
  have xs7 : w2.cell? ⟨w.heap.size, 7, none⟩ = some (.int .i64 ix) := HBL2.out.cell 7
  have xs8 : w2.cell? ⟨w.heap.size, 8, none⟩ = some (.string nm) := HBL2.out.cell 8
  have xsa : w2.cell? ⟨w.heap.size + 1, 0, none⟩ = some (.slice At n c) := HBX2.out.cell 0
  have xsb : w2.cell? ⟨w.heap.size + 1, 1, none⟩ = some (.int .i64 at_) := HBX2.out.cell 1
  clear hb2 xr0 xr1 xr2 xr3 xr4 xr5 xr6 xr7 xr8 xra xrb
  generalize decide (4194304 < size tt) = deep at *
  cases deep with
  | true =>
    simp only []
    go_wp2_with fail
    go_ret
    exact ⟨rfl, HB2.out⟩
  | false =>
  simp only []
  go_wp2_with fail
  refine (HMU.out w2 HB2.out).mono ?_
  rintro e w3 ⟨⟨much, rfl⟩, hb3⟩
  have HB3 := Lib.hid (HB2.out.trans (hb3.mono HB2.out.size))
  have HBL3 := Lib.hid (HBL2.out.below hb3 HBL2.out.lt)
  have HBX3 := Lib.hid (HBX2.out.below hb3 HBX2.out.lt)
  have xr0 : w3.cell? ⟨w.heap.size, 0, none⟩ = some (.int .i64 k) := HBL3.out.cell 0
  have xr1 : w3.cell? ⟨w.heap.size, 1, none⟩ = some (.slice ra r.length rc) := HBL3.out.cell 1
  have xr2 : w3.cell? ⟨w.heap.size, 2, none⟩ = some (.int .i64 ast) := HBL3.out.cell 2
  have xr3 : w3.cell? ⟨w.heap.size, 3, none⟩ = some (.slice sa l.length sc) := HBL3.out.cell 3
  have xr4 : w3.cell? ⟨w.heap.size, 4, none⟩ = some (.int .i64 mn) := HBL3.out.cell 4
  have xr5 : w3.cell? ⟨w.heap.size, 5, none⟩ = some (.int .i64 mx) := HBL3.out.cell 5
  have xr6 : w3.cell? ⟨w.heap.size, 6, none⟩ = some (.bool z) := HBL3.out.cell 6
  have xr7 : w3.cell? ⟨w.heap.size, 7, none⟩ = some (.int .i64 ix) := HBL3.out.cell 7
  have xr8 : w3.cell? ⟨w.heap.size, 8, none⟩ = some (.string nm) := HBL3.out.cell 8
  have xra : w3.cell? ⟨w.heap.size + 1, 0, none⟩ = some (.slice At n c) := HBX3.out.cell 0
  have xrb : w3.cell? ⟨w.heap.size + 1, 1, none⟩ = some (.int .i64 at_) := HBX3.out.cell 1
  clear hb3 xs0 xs1 xs2 xs3 xs4 xs5 xs6 xs7 xs8 xsa xsb
  cases much with
  | true =>
    simp only []
    go_wp2_with fail
    go_ret
    exact ⟨rfl, HB3.out⟩
  | false =>
  simp only []
  go_wp2_with fail
  refine (awakeM_any w3).mono ?_
  rintro e w4 ⟨rfl, hb4⟩
  have HB4 := Lib.hid (HB3.out.trans (hb4.mono HB3.out.size))
  have HBL4 := Lib.hid (HBL3.out.below hb4 HBL3.out.lt)
  have HBX4 := Lib.hid (HBX3.out.below hb4 HBX3.out.lt)
  have xs0 : w4.cell? ⟨w.heap.size, 0, none⟩ = some (.int .i64 k) := HBL4.out.cell 0
  have xs1 : w4.cell? ⟨w.heap.size, 1, none⟩ = some (.slice ra r.length rc) := HBL4.out.cell 1
  have xs2 : w4.cell? ⟨w.heap.size, 2, none⟩ = some (.int .i64 ast) := HBL4.out.cell 2
  have xs3 : w4.cell? ⟨w.heap.size, 3, none⟩ = some (.slice sa l.length sc) := HBL4.out.cell 3
  have xs4 : w4.cell? ⟨w.heap.size, 4, none⟩ = some (.int .i64 mn) := HBL4.out.cell 4
  have xs5 : w4.cell? ⟨w.heap.size, 5, none⟩ = some (.int .i64 mx) := HBL4.out.cell 5
  have xs6 : w4.cell? ⟨w.heap.size, 6, none⟩ = some (.bool z) := HBL4.out.cell 6
  have xs7 : w4.cell? ⟨w.heap.size, 7, none⟩ = some (.int .i64 ix) := HBL4.out.cell 7
  have xs8 : w4.cell? ⟨w.heap.size, 8, none⟩ = some (.string nm) := HBL4.out.cell 8
  have xsa : w4.cell? ⟨w.heap.size + 1, 0, none⟩ = some (.slice At n c) := HBX4.out.cell 0
  have xsb : w4.cell? ⟨w.heap.size + 1, 1, none⟩ = some (.int .i64 at_) := HBX4.out.cell 1
  clear hb4 xr0 xr1 xr2 xr3 xr4 xr5 xr6 xr7 xr8 xra xrb
  simp only []
  go_wp2_with fail
  refine (HMA.out w4 HB4.out).mono ?_
  rintro e w5 ⟨rfl, hb5⟩
  have HB5 := Lib.hid (HB4.out.trans (hb5.mono HB4.out.size))
  have HBL5 := Lib.hid (HBL4.out.below hb5 HBL4.out.lt)
  have HBX5 := Lib.hid (HBX4.out.below hb5 HBX4.out.lt)
  have xr0 : w5.cell? ⟨w.heap.size, 0, none⟩ = some (.int .i64 k) := HBL5.out.cell 0
  have xr1 : w5.cell? ⟨w.heap.size, 1, none⟩ = some (.slice ra r.length rc) := HBL5.out.cell 1
  have xr2 : w5.cell? ⟨w.heap.size, 2, none⟩ = some (.int .i64 ast) := HBL5.out.cell 2
  have xr3 : w5.cell? ⟨w.heap.size, 3, none⟩ = some (.slice sa l.length sc) := HBL5.out.cell 3
  have xr4 : w5.cell? ⟨w.heap.size, 4, none⟩ = some (.int .i64 mn) := HBL5.out.cell 4
  have xr5 : w5.cell? ⟨w.heap.size, 5, none⟩ = some (.int .i64 mx) := HBL5.out.cell 5
  have xr6 : w5.cell? ⟨w.heap.size, 6, none⟩ = some (.bool z) := HBL5.out.cell 6
  have xr7 : w5.cell? ⟨w.heap.size, 7, none⟩ = some (.int .i64 ix) := HBL5.out.cell 7
  have xr8 : w5.cell? ⟨w.heap.size, 8, none⟩ = some (.string nm) := HBL5.out.cell 8
  have xra : w5.cell? ⟨w.heap.size + 1, 0, none⟩ = some (.slice At n c) := HBX5.out.cell 0
  have xrb : w5.cell? ⟨w.heap.size + 1, 1, none⟩ = some (.int .i64 at_) := HBX5.out.cell 1
  clear hb5 xs0 xs1 xs2 xs3 xs4 xs5 xs6 xs7 xs8 xsa xsb
  cases hmay : mayB tt n at_ with
  | false =>
    simp only []
    clear hmay
    go_wp2_with fail
    go_ret
    exact ⟨rfl, HB5.out⟩
  | true =>
  obtain ⟨hsz, hn64, h0a, han, hso, huz⟩ := may_parts hmay
  clear hmay
  obtain ⟨a0, rfl⟩ : ∃ a0 : Nat, at_ = (a0 : Int) := ⟨at_.toNat, by omega⟩
  have ha0 : a0 ≤ n := by omega
  have HSO := Lib.hid hso
  have HFA := Lib.hid (show size tt ≤ 200000 ∧ n ≤ 64 ∧ a0 ≤ n ∧ uz tt ≤ 2000 from ⟨hsz, hn64, ha0, huz⟩)
  have HPE := Lib.hid (par_zero hn64 hso huz ha0)
  clear hsz h0a han hso huz ha0 hn64
  simp only []
  go_wp2_with fail
  refine (HPA.out w5 HB5.out a0 HPE.out).mono ?_
  rintro e w6 ⟨A1, o1, p1, rfl, hb6, hl1⟩
  have HB6 := Lib.hid (HB5.out.trans (hb6.mono HB5.out.size))
  have HBL6 := Lib.hid (HBL5.out.below hb6 HBL5.out.lt)
  have HBX6 := Lib.hid (HBX5.out.below hb6 HBX5.out.lt)
  have xs0 : w6.cell? ⟨w.heap.size, 0, none⟩ = some (.int .i64 k) := HBL6.out.cell 0
  have xs1 : w6.cell? ⟨w.heap.size, 1, none⟩ = some (.slice ra r.length rc) := HBL6.out.cell 1
  have xs2 : w6.cell? ⟨w.heap.size, 2, none⟩ = some (.int .i64 ast) := HBL6.out.cell 2
  have xs3 : w6.cell? ⟨w.heap.size, 3, none⟩ = some (.slice sa l.length sc) := HBL6.out.cell 3
  have xs4 : w6.cell? ⟨w.heap.size, 4, none⟩ = some (.int .i64 mn) := HBL6.out.cell 4
  have xs5 : w6.cell? ⟨w.heap.size, 5, none⟩ = some (.int .i64 mx) := HBL6.out.cell 5
  have xs6 : w6.cell? ⟨w.heap.size, 6, none⟩ = some (.bool z) := HBL6.out.cell 6
  have xs7 : w6.cell? ⟨w.heap.size, 7, none⟩ = some (.int .i64 ix) := HBL6.out.cell 7
  have xs8 : w6.cell? ⟨w.heap.size, 8, none⟩ = some (.string nm) := HBL6.out.cell 8
  have xsa : w6.cell? ⟨w.heap.size + 1, 0, none⟩ = some (.slice At n c) := HBX6.out.cell 0
  have xsb : w6.cell? ⟨w.heap.size + 1, 1, none⟩ = some (.int .i64 (a0 : Int)) := HBX6.out.cell 1
  have HL1 := Lib.hid hl1
  clear hb6 hl1 xr0 xr1 xr2 xr3 xr4 xr5 xr6 xr7 xr8 xra xrb
  simp only []
  go_wp2_with fail
  refine (HTU.out w6 HB6.out HFA.out.1).mono ?_
  rintro e w7 ⟨u5, m9, rfl, hT, hrt7, hb7⟩
  have HB7 := Lib.hid (HB6.out.trans (hb7.mono HB6.out.size))
  have HBL7 := Lib.hid (HBL6.out.below hb7 HBL6.out.lt)
  have HBX7 := Lib.hid (HBX6.out.below hb7 HBX6.out.lt)
  have HT := Lib.hid hT
  have HRT7 := Lib.hid hrt7
  have HB67 := Lib.hid hb7
  clear hb7 hT hrt7 xs0 xs1 xs2 xs3 xs4 xs5 xs6 xs7 xs8 xsa xsb
  obtain ⟨k5, r5, ra5, rc5, a5, l5, sa5, sc5, n5, m5, z5, i5, s5⟩ := u5
  have hb8 : Below w7.heap.size w7 (w7.alloc (.cells #[.int .i64 k5, .slice ra5 r5.length rc5, .int .i64 a5, .slice sa5 l5.length sc5, .int .i64 n5, .int .i64 m5, .bool z5, .int .i64 i5, .string s5] 28)) := (Below.refl _ _).alloc (Nat.le_refl _) _
  have HB8 := Lib.hid (HB7.out.trans (hb8.mono HB7.out.size))
  have HBL8 := Lib.hid (HBL7.out.below hb8 HBL7.out.lt)
  have HBX8 := Lib.hid (HBX7.out.below hb8 HBX7.out.lt)
  have HB68 := Lib.hid (HB67.out.trans (hb8.mono HB67.out.size))
  have HU8 := Lib.hid (Blk.new w7 28 [.int .i64 k5, .slice ra5 r5.length rc5, .int .i64 a5, .slice sa5 l5.length sc5, .int .i64 n5, .int .i64 m5, .bool z5, .int .i64 i5, .string s5])
  have xr0 : (w7.alloc (.cells #[.int .i64 k5, .slice ra5 r5.length rc5, .int .i64 a5, .slice sa5 l5.length sc5, .int .i64 n5, .int .i64 m5, .bool z5, .int .i64 i5, .string s5] 28)).cell? ⟨w.heap.size, 0, none⟩ = some (.int .i64 k) := HBL8.out.cell 0
  have xr1 : (w7.alloc (.cells #[.int .i64 k5, .slice ra5 r5.length rc5, .int .i64 a5, .slice sa5 l5.length sc5, .int .i64 n5, .int .i64 m5, .bool z5, .int .i64 i5, .string s5] 28)).cell? ⟨w.heap.size, 1, none⟩ = some (.slice ra r.length rc) := HBL8.out.cell 1
  have xr2 : (w7.alloc (.cells #[.int .i64 k5, .slice ra5 r5.length rc5, .int .i64 a5, .slice sa5 l5.length sc5, .int .i64 n5, .int .i64 m5, .bool z5, .int .i64 i5, .string s5] 28)).cell? ⟨w.heap.size, 2, none⟩ = some (.int .i64 ast) := HBL8.out.cell 2
  have xr3 : (w7.alloc (.cells #[.int .i64 k5, .slice ra5 r5.length rc5, .int .i64 a5, .slice sa5 l5.length sc5, .int .i64 n5, .int .i64 m5, .bool z5, .int .i64 i5, .string s5] 28)).cell? ⟨w.heap.size, 3, none⟩ = some (.slice sa l.length sc) := HBL8.out.cell 3
  have xr4 : (w7.alloc (.cells #[.int .i64 k5, .slice ra5 r5.length rc5, .int .i64 a5, .slice sa5 l5.length sc5, .int .i64 n5, .int .i64 m5, .bool z5, .int .i64 i5, .string s5] 28)).cell? ⟨w.heap.size, 4, none⟩ = some (.int .i64 mn) := HBL8.out.cell 4
  have xr5 : (w7.alloc (.cells #[.int .i64 k5, .slice ra5 r5.length rc5, .int .i64 a5, .slice sa5 l5.length sc5, .int .i64 n5, .int .i64 m5, .bool z5, .int .i64 i5, .string s5] 28)).cell? ⟨w.heap.size, 5, none⟩ = some (.int .i64 mx) := HBL8.out.cell 5
  have xr6 : (w7.alloc (.cells #[.int .i64 k5, .slice ra5 r5.length rc5, .int .i64 a5, .slice sa5 l5.length sc5, .int .i64 n5, .int .i64 m5, .bool z5, .int .i64 i5, .string s5] 28)).cell? ⟨w.heap.size, 6, none⟩ = some (.bool z) := HBL8.out.cell 6
  have xr7 : (w7.alloc (.cells #[.int .i64 k5, .slice ra5 r5.length rc5, .int .i64 a5, .slice sa5 l5.length sc5, .int .i64 n5, .int .i64 m5, .bool z5, .int .i64 i5, .string s5] 28)).cell? ⟨w.heap.size, 7, none⟩ = some (.int .i64 ix) := HBL8.out.cell 7
  have xr8 : (w7.alloc (.cells #[.int .i64 k5, .slice ra5 r5.length rc5, .int .i64 a5, .slice sa5 l5.length sc5, .int .i64 n5, .int .i64 m5, .bool z5, .int .i64 i5, .string s5] 28)).cell? ⟨w.heap.size, 8, none⟩ = some (.string nm) := HBL8.out.cell 8
  have xra : (w7.alloc (.cells #[.int .i64 k5, .slice ra5 r5.length rc5, .int .i64 a5, .slice sa5 l5.length sc5, .int .i64 n5, .int .i64 m5, .bool z5, .int .i64 i5, .string s5] 28)).cell? ⟨w.heap.size + 1, 0, none⟩ = some (.slice At n c) := HBX8.out.cell 0
  have xrb : (w7.alloc (.cells #[.int .i64 k5, .slice ra5 r5.length rc5, .int .i64 a5, .slice sa5 l5.length sc5, .int .i64 n5, .int .i64 m5, .bool z5, .int .i64 i5, .string s5] 28)).cell? ⟨w.heap.size + 1, 1, none⟩ = some (.int .i64 (a0 : Int)) := HBX8.out.cell 1
  have d0 : (w7.alloc (.cells #[.int .i64 k5, .slice ra5 r5.length rc5, .int .i64 a5, .slice sa5 l5.length sc5, .int .i64 n5, .int .i64 m5, .bool z5, .int .i64 i5, .string s5] 28)).cell? ⟨w7.heap.size, 0, none⟩ = some (.int .i64 k5) := HU8.out.cell 0
  have d1 : (w7.alloc (.cells #[.int .i64 k5, .slice ra5 r5.length rc5, .int .i64 a5, .slice sa5 l5.length sc5, .int .i64 n5, .int .i64 m5, .bool z5, .int .i64 i5, .string s5] 28)).cell? ⟨w7.heap.size, 1, none⟩ = some (.slice ra5 r5.length rc5) := HU8.out.cell 1
  have d2 : (w7.alloc (.cells #[.int .i64 k5, .slice ra5 r5.length rc5, .int .i64 a5, .slice sa5 l5.length sc5, .int .i64 n5, .int .i64 m5, .bool z5, .int .i64 i5, .string s5] 28)).cell? ⟨w7.heap.size, 2, none⟩ = some (.int .i64 a5) := HU8.out.cell 2
  have d3 : (w7.alloc (.cells #[.int .i64 k5, .slice ra5 r5.length rc5, .int .i64 a5, .slice sa5 l5.length sc5, .int .i64 n5, .int .i64 m5, .bool z5, .int .i64 i5, .string s5] 28)).cell? ⟨w7.heap.size, 3, none⟩ = some (.slice sa5 l5.length sc5) := HU8.out.cell 3
  have d4 : (w7.alloc (.cells #[.int .i64 k5, .slice ra5 r5.length rc5, .int .i64 a5, .slice sa5 l5.length sc5, .int .i64 n5, .int .i64 m5, .bool z5, .int .i64 i5, .string s5] 28)).cell? ⟨w7.heap.size, 4, none⟩ = some (.int .i64 n5) := HU8.out.cell 4
  have d5 : (w7.alloc (.cells #[.int .i64 k5, .slice ra5 r5.length rc5, .int .i64 a5, .slice sa5 l5.length sc5, .int .i64 n5, .int .i64 m5, .bool z5, .int .i64 i5, .string s5] 28)).cell? ⟨w7.heap.size, 5, none⟩ = some (.int .i64 m5) := HU8.out.cell 5
  have d6 : (w7.alloc (.cells #[.int .i64 k5, .slice ra5 r5.length rc5, .int .i64 a5, .slice sa5 l5.length sc5, .int .i64 n5, .int .i64 m5, .bool z5, .int .i64 i5, .string s5] 28)).cell? ⟨w7.heap.size, 6, none⟩ = some (.bool z5) := HU8.out.cell 6
  have d7 : (w7.alloc (.cells #[.int .i64 k5, .slice ra5 r5.length rc5, .int .i64 a5, .slice sa5 l5.length sc5, .int .i64 n5, .int .i64 m5, .bool z5, .int .i64 i5, .string s5] 28)).cell? ⟨w7.heap.size, 7, none⟩ = some (.int .i64 i5) := HU8.out.cell 7
  have d8 : (w7.alloc (.cells #[.int .i64 k5, .slice ra5 r5.length rc5, .int .i64 a5, .slice sa5 l5.length sc5, .int .i64 n5, .int .i64 m5, .bool z5, .int .i64 i5, .string s5] 28)).cell? ⟨w7.heap.size, 8, none⟩ = some (.string s5) := HU8.out.cell 8
  have hp8 := parses_left k5 r5 ra5 rc5 a5 l5 sa5 sc5 n5 m5 z5 i5 s5 (· < (w7.alloc (.cells #[.int .i64 k5, .slice ra5 r5.length rc5, .int .i64 a5, .slice sa5 l5.length sc5, .int .i64 n5, .int .i64 m5, .bool z5, .int .i64 i5, .string s5] 28)).heap.size) At n c a0 t (w7.alloc (.cells #[.int .i64 k5, .slice ra5 r5.length rc5, .int .i64 a5, .slice sa5 l5.length sc5, .int .i64 n5, .int .i64 m5, .bool z5, .int .i64 i5, .string s5] 28)) (rt_up HRT7.out (fun b hb => hb.elim (fun h => Nat.lt_of_lt_of_le h HB67.out.size) fun h => h.2.1) hb8) (fun b hb => hb) hn (HPX.out _ HB8.out) (par_zero HFA.out.2.1 (by rw [turn_sound HT.out]; exact HSO.out) (by rw [(turn_same HT.out).2.2.2]; exact HFA.out.2.2.2) HFA.out.2.2.1)
  obtain ⟨t5, ht5⟩ : ∃ t5, t5 = (Ta.mk k5 r5 ra5 rc5 a5 l5 sa5 sc5 n5 m5 z5 i5 s5).tr := ⟨_, rfl⟩
  rw [← ht5] at hp8 HT
  simp only [Ta.val, Ta.vals] at hp8
  have HP8 := Lib.hid hp8
  clear hp8 hb8 ht5 HRT7
  simp only [Ta.val, Ta.vals]
  go_wp2_with fail
  generalize (w7.alloc (.cells #[.int .i64 k5, .slice ra5 r5.length rc5, .int .i64 a5, .slice sa5 l5.length sc5, .int .i64 n5, .int .i64 m5, .bool z5, .int .i64 i5, .string s5] 28)) = w8 at *
  refine HP8.out.mono ?_
  rintro e w9 ⟨A2, o2, p2, rfl, hb9, hl2⟩
  have HB9 := Lib.hid (HB8.out.trans (hb9.mono HB8.out.size))
  have HBL9 := Lib.hid (HBL8.out.below hb9 HBL8.out.lt)
  have HBX9 := Lib.hid (HBX8.out.below hb9 HBX8.out.lt)
  have HL2 := Lib.hid hl2
  have HB69 := Lib.hid (HB68.out.trans (hb9.mono HB68.out.size))
  clear hb9 hl2 xr0 xr1 xr2 xr3 xr4 xr5 xr6 xr7 xr8 xra xrb d0 d1 d2 d3 d4 d5 d6 d7 d8 HP8
  have HBW := Lib.hid (HBA.out w9.drew (bdrewN HB9.out 1) (sound_parts HSO.out))
  have hpb : ∀ (w10 : World) (u6 : Ta), u6.tr = bareS tt → RT w10 (Sx (· < w9.drew.heap.size) w9.drew.heap.size [] w10) u6 → Below w9.drew.heap.size w9.drew w10 → Calls Try.prog 11 #[u6.val, .slice At n c, .int .i64 (a0 : Int)] w10 fun e w' => ∃ A oc ps, e = .returned (.tuple #[.slice A ps.length oc, .int .i64 0]) ∧ Below w10.heap.size w10 w' ∧ Left t a0 (bareS tt) w' A oc ps := fun w10 u6 h1 h2 h3 => by
    have := parses_ta u6 (· < w10.heap.size) At n c a0 t w10 (h2.mono fun b hb => hb.elim (fun h => Nat.lt_of_lt_of_le h h3.size) fun h => h.2.1) (fun b hb => hb) hn (HPX.out _ ((bdrewN HB9.out 1).trans (h3.mono HB9.out.size))) (by rw [h1]; exact par_zero HFA.out.2.1 (bare_sound HSO.out) (Nat.le_trans (bare_ok tt (sound_parts HSO.out)).2.2.2 HFA.out.2.2.2) HFA.out.2.2.1)
    rwa [h1] at this
  have HPB := Lib.hid hpb
  have kA : w9.drew.cell? ⟨w.heap.size, 0, none⟩ = some (.int .i64 k) ∧ w9.drew.cell? ⟨w.heap.size, 1, none⟩ = some (.slice ra r.length rc) ∧ w9.drew.cell? ⟨w.heap.size, 2, none⟩ = some (.int .i64 ast) ∧ w9.drew.cell? ⟨w.heap.size, 3, none⟩ = some (.slice sa l.length sc) ∧ w9.drew.cell? ⟨w.heap.size, 4, none⟩ = some (.int .i64 mn) ∧ w9.drew.cell? ⟨w.heap.size, 5, none⟩ = some (.int .i64 mx) ∧ w9.drew.cell? ⟨w.heap.size, 6, none⟩ = some (.bool z) ∧ w9.drew.cell? ⟨w.heap.size, 7, none⟩ = some (.int .i64 ix) ∧ w9.drew.cell? ⟨w.heap.size, 8, none⟩ = some (.string nm) ∧ w9.drew.cell? ⟨w.heap.size + 1, 0, none⟩ = some (.slice At n c) ∧ w9.drew.cell? ⟨w.heap.size + 1, 1, none⟩ = some (.int .i64 (a0 : Int)) := ⟨HBL9.out.cell 0, HBL9.out.cell 1, HBL9.out.cell 2, HBL9.out.cell 3, HBL9.out.cell 4, HBL9.out.cell 5, HBL9.out.cell 6, HBL9.out.cell 7, HBL9.out.cell 8, HBX9.out.cell 0, HBX9.out.cell 1⟩
  clear hpb
  simp only []
  go_wp2_with fail
  go_region_held_law (fun u => u.cell? ⟨w.heap.size, 0, none⟩ = some (.int .i64 k) ∧ u.cell? ⟨w.heap.size, 1, none⟩ = some (.slice ra r.length rc) ∧ u.cell? ⟨w.heap.size, 2, none⟩ = some (.int .i64 ast) ∧ u.cell? ⟨w.heap.size, 3, none⟩ = some (.slice sa l.length sc) ∧ u.cell? ⟨w.heap.size, 4, none⟩ = some (.int .i64 mn) ∧ u.cell? ⟨w.heap.size, 5, none⟩ = some (.int .i64 mx) ∧ u.cell? ⟨w.heap.size, 6, none⟩ = some (.bool z) ∧ u.cell? ⟨w.heap.size, 7, none⟩ = some (.int .i64 ix) ∧ u.cell? ⟨w.heap.size, 8, none⟩ = some (.string nm) ∧ u.cell? ⟨w.heap.size + 1, 0, none⟩ = some (.slice At n c) ∧ u.cell? ⟨w.heap.size + 1, 1, none⟩ = some (.int .i64 (a0 : Int))) (first | with_reducible exact kA | with_reducible exact kB | with_reducible exact kC) (first
    | (go_at_call 17; (with_reducible refine HBW.out.mono ?_); rintro e w10 ⟨u6, rfl, htr6, hrt6, hb10⟩; have HP10 := Lib.hid (HPB.out w10 u6 htr6 hrt6 hb10); have HB10 := Lib.hid hb10; have kB : w10.cell? ⟨w.heap.size, 0, none⟩ = some (.int .i64 k) ∧ w10.cell? ⟨w.heap.size, 1, none⟩ = some (.slice ra r.length rc) ∧ w10.cell? ⟨w.heap.size, 2, none⟩ = some (.int .i64 ast) ∧ w10.cell? ⟨w.heap.size, 3, none⟩ = some (.slice sa l.length sc) ∧ w10.cell? ⟨w.heap.size, 4, none⟩ = some (.int .i64 mn) ∧ w10.cell? ⟨w.heap.size, 5, none⟩ = some (.int .i64 mx) ∧ w10.cell? ⟨w.heap.size, 6, none⟩ = some (.bool z) ∧ w10.cell? ⟨w.heap.size, 7, none⟩ = some (.int .i64 ix) ∧ w10.cell? ⟨w.heap.size, 8, none⟩ = some (.string nm) ∧ w10.cell? ⟨w.heap.size + 1, 0, none⟩ = some (.slice At n c) ∧ w10.cell? ⟨w.heap.size + 1, 1, none⟩ = some (.int .i64 (a0 : Int)) := ⟨(HBL9.out.drew.below hb10 HBL9.out.lt).cell 0, (HBL9.out.drew.below hb10 HBL9.out.lt).cell 1, (HBL9.out.drew.below hb10 HBL9.out.lt).cell 2, (HBL9.out.drew.below hb10 HBL9.out.lt).cell 3, (HBL9.out.drew.below hb10 HBL9.out.lt).cell 4, (HBL9.out.drew.below hb10 HBL9.out.lt).cell 5, (HBL9.out.drew.below hb10 HBL9.out.lt).cell 6, (HBL9.out.drew.below hb10 HBL9.out.lt).cell 7, (HBL9.out.drew.below hb10 HBL9.out.lt).cell 8, (HBX9.out.drew.below hb10 HBX9.out.lt).cell 0, (HBX9.out.drew.below hb10 HBX9.out.lt).cell 1⟩; clear htr6 hrt6 hb10; obtain ⟨k6, r6, ra6, rc6, a6, l6, sa6, sc6, n6, m6, z6, i6, s6⟩ := u6; simp only [Ta.val, Ta.vals] at HP10; simp only [Ta.val, Ta.vals])
    | (go_at_call 11; (with_reducible refine HP10.out.mono ?_); rintro e w11 ⟨A3, o3, p3, rfl, hb11, hl3⟩; have HB11 := Lib.hid hb11; have HL3 := Lib.hid hl3; have kC : w11.cell? ⟨w.heap.size, 0, none⟩ = some (.int .i64 k) ∧ w11.cell? ⟨w.heap.size, 1, none⟩ = some (.slice ra r.length rc) ∧ w11.cell? ⟨w.heap.size, 2, none⟩ = some (.int .i64 ast) ∧ w11.cell? ⟨w.heap.size, 3, none⟩ = some (.slice sa l.length sc) ∧ w11.cell? ⟨w.heap.size, 4, none⟩ = some (.int .i64 mn) ∧ w11.cell? ⟨w.heap.size, 5, none⟩ = some (.int .i64 mx) ∧ w11.cell? ⟨w.heap.size, 6, none⟩ = some (.bool z) ∧ w11.cell? ⟨w.heap.size, 7, none⟩ = some (.int .i64 ix) ∧ w11.cell? ⟨w.heap.size, 8, none⟩ = some (.string nm) ∧ w11.cell? ⟨w.heap.size + 1, 0, none⟩ = some (.slice At n c) ∧ w11.cell? ⟨w.heap.size + 1, 1, none⟩ = some (.int .i64 (a0 : Int)) := ⟨((HBL9.out.drew.below HB10.out HBL9.out.lt).below hb11 (Nat.lt_of_lt_of_le HBL9.out.lt HB10.out.size)).cell 0, ((HBL9.out.drew.below HB10.out HBL9.out.lt).below hb11 (Nat.lt_of_lt_of_le HBL9.out.lt HB10.out.size)).cell 1, ((HBL9.out.drew.below HB10.out HBL9.out.lt).below hb11 (Nat.lt_of_lt_of_le HBL9.out.lt HB10.out.size)).cell 2, ((HBL9.out.drew.below HB10.out HBL9.out.lt).below hb11 (Nat.lt_of_lt_of_le HBL9.out.lt HB10.out.size)).cell 3, ((HBL9.out.drew.below HB10.out HBL9.out.lt).below hb11 (Nat.lt_of_lt_of_le HBL9.out.lt HB10.out.size)).cell 4, ((HBL9.out.drew.below HB10.out HBL9.out.lt).below hb11 (Nat.lt_of_lt_of_le HBL9.out.lt HB10.out.size)).cell 5, ((HBL9.out.drew.below HB10.out HBL9.out.lt).below hb11 (Nat.lt_of_lt_of_le HBL9.out.lt HB10.out.size)).cell 6, ((HBL9.out.drew.below HB10.out HBL9.out.lt).below hb11 (Nat.lt_of_lt_of_le HBL9.out.lt HB10.out.size)).cell 7, ((HBL9.out.drew.below HB10.out HBL9.out.lt).below hb11 (Nat.lt_of_lt_of_le HBL9.out.lt HB10.out.size)).cell 8, ((HBX9.out.drew.below HB10.out HBX9.out.lt).below hb11 (Nat.lt_of_lt_of_le HBX9.out.lt HB10.out.size)).cell 0, ((HBX9.out.drew.below HB10.out HBX9.out.lt).below hb11 (Nat.lt_of_lt_of_le HBX9.out.lt HB10.out.size)).cell 1⟩; clear hb11 hl3; simp only []))
  obtain ⟨hl12, he12, hm13⟩ := left_all HL1.out HL2.out HL3.out HSO.out (by rw [HTL.out]; exact HFA.out.2.2.1) HT.out n
  have hl13 : p1.length = p3.length := by have := congrArg List.length hm13; rwa [List.length_map, List.length_map] at this
  have HB611 := Lib.hid (((bdrewN HB69.out 1).trans (HB10.out.mono HB69.out.size)).trans (HB11.out.mono (Nat.le_trans HB69.out.size HB10.out.size)))
  have HBF := Lib.hid (((bdrewN HB9.out 1).trans (HB10.out.mono HB9.out.size)).trans (HB11.out.mono (Nat.le_trans HB9.out.size HB10.out.size)))
  have HR1 := Lib.hid (show Reads w11 w11.heap.size 2 A1 p1.length o1 (outW p1) from by
    obtain ⟨-, -, -, -, -, -, h5, -, -⟩ := HL1.out
    exact (h5.below HB611.out).more HB611.out.size)
  have HR2 := Lib.hid (show Reads w11 w11.heap.size 2 A2 p2.length o2 (outW p2) from by
    obtain ⟨-, -, -, -, -, -, h5, -, -⟩ := HL2.out
    exact (((h5.drewN 1).below HB10.out).more HB10.out.size).below HB11.out |>.more HB11.out.size)
  have HR3 := Lib.hid (show Reads w11 w11.heap.size 2 A3 p1.length o3 (outW p3) from by
    obtain ⟨-, -, -, -, -, -, h5, -, -⟩ := HL3.out
    rw [hl13]; exact h5)
  have HX := Lib.hid (show p1.length ≤ 65 ∧ (∀ p ∈ p1, p.1 ≤ n) ∧ (∀ p ∈ p2, p.1 ≤ n) from by
    refine ⟨left_few HL1.out (by rw [HTL.out]; exact HFA.out.2.1), ?_, ?_⟩
    · obtain ⟨-, -, -, -, -, -, -, -, h7⟩ := HL1.out
      rw [HTL.out] at h7; exact h7
    · obtain ⟨-, -, -, -, -, -, -, -, h7⟩ := HL2.out
      rw [HTL.out] at h7; exact h7)
  have HE12 := Lib.hid he12
  have HM13 := Lib.hid hm13
  have HL12 := Lib.hid hl12
  have HL13 := Lib.hid hl13
  have HBX11 := Lib.hid ((HBX9.out.drew.below HB10.out HBX9.out.lt).below HB11.out (Nat.lt_of_lt_of_le HBX9.out.lt HB10.out.size))
  have HC := Lib.hid kC
  rw [← hl12, ← hl13]
  clear hl12 hl13 he12 hm13 kA kB kC
  generalize hq1 : p1.length = q at *
  have HQ1 := Lib.hid hq1
  clear hq1
  have hq65 : q ≤ 65 := HX.out.1
  go_wp2_with fail
  go_loopw [19] (fun iv wr => ∃ i : Nat, i ≤ q ∧ iv = .int .i64 (i : Int) ∧ Below w11.heap.size w11 wr) (fun iv _ => q - (intOf iv).toNat)
  case atStart => exact ⟨0, Nat.zero_le _, rfl, Below.refl _ _⟩
  case round =>
    obtain ⟨i, hi, rfl, hb⟩ := hrel
    have HBW := Lib.hid hb
    clear hb
    by_cases hlt : i < q
    · have hlt2 : (i : Int) < (q : Int) := by omega
      obtain ⟨b1, f1, rfl, hbl1, hc1⟩ := HR1.out.at_ (by omega)
      obtain ⟨b3, f3, rfl, hbl3, hc3⟩ := HR3.out.at_ (by omega)
      obtain ⟨p, hp⟩ : ∃ p, p1[i]? = some p := ⟨_, List.getElem?_eq_getElem (by rw [HQ1.out]; exact hlt)⟩
      obtain ⟨p', hp'⟩ : ∃ p, p3[i]? = some p := ⟨_, List.getElem?_eq_getElem (by rw [← HL13.out]; exact hlt)⟩
      have hpp : p'.1 = p.1 := by
        have := congrArg (fun l => l[i]?) HM13.out
        simp only [List.getElem?_map, hp, hp', Option.map_some, Option.some.injEq] at this
        exact this.symm
      have e1 : wr.cell? ⟨b1, f1 + i * 2, none⟩ = some (.int .i64 (p.1 : Int)) := (HBW.out.cell (p := ⟨b1, f1 + i * 2, none⟩) hbl1).trans (hc1 (i * 2) _ (outW_get p1 i p hp).1)
      have e3 : wr.cell? ⟨b3, f3 + i * 2, none⟩ = some (.int .i64 (p.1 : Int)) := (HBW.out.cell (p := ⟨b3, f3 + i * 2, none⟩) hbl3).trans (hc3 (i * 2) _ (by rw [← hpp]; exact (outW_get p3 i p' hp').1))
      generalize p.1 = y at *
      clear hc1 hc3 hp hp' hpp
      go_wp2_with fail
      go_quiet (fail)
      go_wp2_with fail
      go_roundw
      case rel => exact ⟨i + 1, by omega, by go_num, bdrewN HBW.out _⟩
      case measure => simp [intOf]; omega
    · obtain rfl : i = q := by omega
      have hlt2 : ¬ ((i : Int) < (i : Int)) := by omega
      have HRA := Lib.hid (show Reads wr.drew wr.drew.heap.size 2 A1 p1.length o1 (outW p1) from by
        have := (HR1.out.below HBW.out).more HBW.out.size
        rw [← HQ1.out] at this; exact this.drewN 1)
      have HRB := Lib.hid (show Reads wr.drew wr.drew.heap.size 2 A2 p2.length o2 (outW p2) from ((HR2.out.below HBW.out).more HBW.out.size).drewN 1)
      have HE1 := Lib.hid (ends2 A1 o1 n i p1 wr.drew HRA.out HX.out.2.1 HFA.out.2.1 (by rw [HQ1.out]; exact HX.out.1) HQ1.out)
      have kA : wr.drew.cell? ⟨w.heap.size + 1, 0, none⟩ = some (.slice At n c) := (HBX11.out.below HBW.out HBX11.out.lt).cell 0
      go_wp2_with fail
      go_region_held_law (fun u => u.cell? ⟨w.heap.size + 1, 0, none⟩ = some (.slice At n c)) (first | with_reducible exact kA | with_reducible exact kB | with_reducible exact kC | with_reducible exact kD) (first
        | (go_at_call 14; (with_reducible refine HE1.out.mono ?_); rintro e w12 ⟨rfl, hb12, hx12⟩; have HB12 := Lib.hid hb12; have HX12 := Lib.hid hx12; have HE2 := Lib.hid (ends2 A2 o2 n i p2 w12 ((HRB.out.below hb12).more hb12.size) HX.out.2.2 HFA.out.2.1 (by rw [← HL12.out]; exact HX.out.1) HL12.out.symm); have kB : w12.cell? ⟨w.heap.size + 1, 0, none⟩ = some (.slice At n c) := ((HBX11.out.below HBW.out HBX11.out.lt).drew.below hb12 (Nat.lt_of_lt_of_le HBX11.out.lt HBW.out.size)).cell 0; clear hb12 hx12; simp only [])
        | (go_at_call 14; (with_reducible refine HE2.out.mono ?_); rintro e w13 ⟨rfl, hb13, hx13⟩; have HB13 := Lib.hid hb13; have HAL := Lib.hid (alike2 wr.heap.size w12.heap.size n p1 p2 w13 (HX12.out.below hb13 HX12.out.lt) hx13 HE12.out HFA.out.2.1); have kC : w13.cell? ⟨w.heap.size + 1, 0, none⟩ = some (.slice At n c) := (((HBX11.out.below HBW.out HBX11.out.lt).drew.below HB12.out (Nat.lt_of_lt_of_le HBX11.out.lt HBW.out.size)).below hb13 (Nat.lt_of_lt_of_le HBX11.out.lt (Nat.le_trans HBW.out.size HB12.out.size))).cell 0; clear hb13 hx13; simp only [])
        | (go_at_call 13; (with_reducible refine HAL.out.mono ?_); rintro e w14 ⟨rfl, hb14⟩; have HB14 := Lib.hid hb14; have kD : w14.cell? ⟨w.heap.size + 1, 0, none⟩ = some (.slice At n c) := ((((HBX11.out.below HBW.out HBX11.out.lt).drew.below HB12.out (Nat.lt_of_lt_of_le HBX11.out.lt HBW.out.size)).below HB13.out (Nat.lt_of_lt_of_le HBX11.out.lt (Nat.le_trans HBW.out.size HB12.out.size))).below hb14 (Nat.lt_of_lt_of_le HBX11.out.lt (Nat.le_trans HBW.out.size (Nat.le_trans HB12.out.size HB13.out.size)))).cell 0; clear hb14; simp only []))
      all_goals
        go_wp2_with fail
        go_ret
        have z1 := HBF.out.size
        have z2 := HBW.out.size
        have z3 := HB12.out.size
        have z4 := HB13.out.size
        exact ⟨rfl, (((bdrewN (HBF.out.trans (HBW.out.mono z1)) 1).trans (HB12.out.mono (Nat.le_trans z1 z2))).trans (HB13.out.mono (Nat.le_trans z1 (Nat.le_trans z2 z3)))).trans (HB14.out.mono (Nat.le_trans z1 (Nat.le_trans z2 (Nat.le_trans z3 z4))))⟩
end Go.Proofs.Ytjeljlgjkjeloaa
