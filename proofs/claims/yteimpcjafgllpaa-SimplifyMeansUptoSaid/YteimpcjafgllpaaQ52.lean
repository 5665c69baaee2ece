/- heronlaw07.SimplifyMeans: true. -/
import Derived.Test.YteimpcjafgllpaaQ18
import Derived.Test.YteimpcjafgllpaaQ29
import Derived.Test.YteimpcjafgllpaaQ32
import Derived.Test.YteimpcjafgllpaaQ47
import Derived.Test.YteimpcjafgllpaaQ50
import Derived.Test.YteimpcjafgllpaaQ51
namespace Go.Proofs.Yteimpcjafgllpaa
open Go.RowKit Go.Proofs.Yteimpcjafgllpaa.Tr
theorem rt_up {w w' : World} {S : Nat → Prop} {t : Ta} (h : RT w S t) (hS : ∀ b, S b → b < w.heap.size) (hb : Below w.heap.size w w') : RT w' (· < w'.heap.size) t :=
  (h.go fun b h => hb.block b (hS b h)).mono fun b h => Nat.lt_of_lt_of_le (hS b h) hb.size
theorem rd_up {w w' : World} {S : Nat → Prop} {size n c : Nat} {A : Option Addr} {xs : List Value} (h : RdA w S size A n c xs) (hS : ∀ b, S b → b < w.heap.size) (hb : Below w.heap.size w w') : RdA w' (· < w'.heap.size) size A n c xs :=
  (h.go fun b h => hb.block b (hS b h)).mono fun b h => Nat.lt_of_lt_of_le (hS b h) hb.size
/-- What Parses leaves, without memory. -/
def PsOf (t : List Int) (a0 : Nat) (tr : Tr.Tr) (ps : List (Nat × Option Addr × Nat × List Int)) : Prop :=
  ∃ (u : Mean.Un) (s' : Mean.St), shU u = unfS tr ∧ (u.all.map Mean.Un.ad).Nodup ∧ Mean.One t a0 st0 (.beg u a0 (List.replicate (2 + 2 * (greatest tr).toNat) (-1)) .top) s' ∧ s'.out = ps.map (fun p => (p.1, p.2.2.2)) ∧ ∀ p ∈ ps, p.2.2.2.length = 2 + 2 * (greatest tr).toNat
/-- What Parses leaves. -/
def LeftP (t : List Int) (n : Nat) (at_ : Int) (tr : Tr.Tr) (w : World) (A : Option Addr) (m oc : Nat) : Prop :=
  parE tr n at_ = 0 → ∃ (a0 : Nat) (ps : List (Nat × Option Addr × Nat × List Int)), at_ = (a0 : Int) ∧ m = ps.length ∧ PsOf t a0 tr ps ∧ Reads w w.heap.size 2 A ps.length oc (outW ps) ∧ ∀ p ∈ ps, Reads w w.heap.size 1 p.2.1 p.2.2.2.length p.2.2.1 (p.2.2.2.map (Value.int .i64))
theorem LeftP.below {t : List Int} {n : Nat} {at_ : Int} {tr : Tr.Tr} {w w' : World} {A : Option Addr} {m oc : Nat} (h : LeftP t n at_ tr w A m oc) (hb : Below w.heap.size w w') : LeftP t n at_ tr w' A m oc := fun he => by
  obtain ⟨a0, ps, h1, h2, h3, h4, h5⟩ := h he
  exact ⟨a0, ps, h1, h2, h3, (h4.below hb).more hb.size, fun p hp => ((h5 p hp).below hb).more hb.size⟩
theorem par_parts {t : Tr.Tr} {n : Nat} {at_ : Int} (h : parE t n at_ = 0) : soundB t = true ∧ 0 ≤ at_ ∧ at_ ≤ (n : Int) := by
  unfold parE at h
  split at h
  · cases h
  split at h
  · cases h
  split at h
  · cases h
  split at h
  · cases h
  · rename_i a1 a2 a3 a4
    exact ⟨by simpa using a2, by omega, by omega⟩
theorem parses_all (u : Ta) (S : Nat → Prop) (At : Option Addr) (n c : Nat) (at_ : Int) (t : List Int) (w : World) (h : RT w S u) (hS : ∀ b, S b → b < w.heap.size) (hn : n ≤ c) (htx : RdA w S 1 At n c (t.map (Value.int .i64))) :
    Calls Try.prog 9 #[u.val, .slice At n c, .int .i64 at_] w fun e w' => ∃ A m oc, e = .returned (.tuple #[.slice A m oc, .int .i64 (parE u.tr n at_)]) ∧ Below w.heap.size w w' ∧ LeftP t n at_ u.tr w' A m oc := by
  cases u with
  | mk k r ra rc ast l sa sc mn mx z ix nm =>
  by_cases he : parE (Ta.mk k r ra rc ast l sa sc mn mx z ix nm).tr n at_ = 0
  · obtain ⟨a0, rfl⟩ : ∃ a0 : Nat, at_ = (a0 : Int) := ⟨at_.toNat, by have := par_parts he; omega⟩
    refine (parses_ok k r ra rc ast l sa sc mn mx z ix nm S At n c a0 t w h hS hn htx he).mono ?_
    rintro e w' ⟨A, oc, ps, v, s', rfl, hb, h1, h2, h3, h4, h5, h6, -, -⟩
    exact ⟨A, ps.length, oc, by rw [he], hb, fun _ => ⟨a0, ps, rfl, rfl, ⟨v, s', h1, h2, h3, h4, fun p hp => (h6 p hp).2⟩, h5, fun p hp => (h6 p hp).1⟩⟩
  · refine (parses_err k r ra rc ast l sa sc mn mx z ix nm S At n c at_ w h hS hn he).mono ?_
    rintro e w' ⟨rfl, hb⟩
    exact ⟨none, 0, 0, rfl, hb, fun h => absurd h he⟩
theorem form_ok {t : Tr.Tr} (h : errV t = 0) : allB t = true ∧ formV t = simpleS t := by
  cases hb : soundB t with
  | false => unfold errV at h; rw [hb] at h; cases h
  | true =>
    cases hf : fitsB t with
    | false => unfold errV at h; rw [hb, hf] at h; cases h
    | true =>
      refine ⟨by unfold soundB at hb; simp only [Bool.and_eq_true] at hb; exact hb.1.1, by unfold formV; rw [hb, hf]; rfl⟩
theorem getD_tail {l : List Int} {N M k : Nat} (h : l.drop N = List.replicate M (-1)) (hk : N ≤ k) : l.getD k (-1) = -1 := by
  have : l[k]? = (l.drop N)[k - N]? := by rw [List.getElem?_drop]; congr 1; omega
  rw [List.getD_eq_getElem?_getD, this, h, List.getElem?_replicate]
  split <;> rfl
theorem means_left {t : List Int} {a0 : Nat} {tr : Tr.Tr} {pa pb : List (Nat × Option Addr × Nat × List Int)} (ha : PsOf t a0 tr pa) (hb : PsOf t a0 (simpleS tr) pb) (hall : allB tr = true) (hat : a0 ≤ t.length) :
    pa.length = pb.length ∧ ∀ (i : Nat) p q, pa[i]? = some p → pb[i]? = some q → p.1 = q.1 ∧ ∀ k : Nat, p.2.2.2.getD k (-1) = q.2.2.2.getD k (-1) := by
  obtain ⟨u, a, b1, b2, b3, b4, b5⟩ := ha
  obtain ⟨v, b, c1, c2, c3, c4, c5⟩ := hb
  have halls : allB (simpleS tr) = true := (simple_good tr hall).1
  obtain ⟨e1, e2, e3⟩ := means_plain hall halls hat b1 c1 b2 c2 rfl rfl b3 c3
  rw [b4, c4] at e1
  rw [List.map_map, List.map_map] at e1
  rw [b4] at e2
  rw [c4] at e3
  refine ⟨by have := congrArg List.length e1; rwa [List.length_map, List.length_map] at this, fun i p q hp hq => ?_⟩
  have h := congrArg (fun l => l[i]?) e1
  simp only [List.getElem?_map, hp, hq, Option.map_some, Option.some.injEq, Function.comp, Prod.mk.injEq] at h
  obtain ⟨h1, h2⟩ := h
  have hp2 := e2 _ (List.mem_map_of_mem (List.mem_of_getElem? hp))
  have hq2 := e3 _ (List.mem_map_of_mem (List.mem_of_getElem? hq))
  refine ⟨h1, fun k => ?_⟩
  by_cases hk : k < min (2 + 2 * (greatest tr).toNat) (2 + 2 * (greatest (simpleS tr)).toNat)
  · have := congrArg (fun l : List Int => l[k]?) h2
    simp only [List.getElem?_take, if_pos hk] at this
    rw [List.getD_eq_getElem?_getD, List.getD_eq_getElem?_getD, this]
  · rw [getD_tail hp2 (by omega), getD_tail hq2 (by omega)]
set_option maxRecDepth 100000 in
set_option maxHeartbeats 8000000 in
theorem means_law (k : Int) (r : List (Int × Int)) (ra : Option Addr) (rc : Nat) (ast : Int) (l : List Ta) (sa : Option Addr) (sc : Nat) (mn mx : Int) (z : Bool) (ix : Int) (nm : ByteArray) (S : Nat → Prop) (At : Option Addr) (n c : Nat) (at_ : Int) (t : List Int) (w : World) (h : RT w S (Ta.mk k r ra rc ast l sa sc mn mx z ix nm)) (hS : ∀ b, S b → b < w.heap.size) (htx : RdA w S 1 At n c (t.map (Value.int .i64))) :
    Calls Try.prog 3 #[(Ta.mk k r ra rc ast l sa sc mn mx z ix nm).val, .slice At n c, .int .i64 at_] w fun e w' => e = .returned (.bool true) ∧ Below w.heap.size w w' := by
  have hb0 : Below w.heap.size w (w.alloc (.cells #[.int .i64 k, .slice ra r.length rc, .int .i64 ast, .slice sa l.length sc, .int .i64 mn, .int .i64 mx, .bool z, .int .i64 ix, .string nm] 25)) := (Below.refl _ _).alloc (Nat.le_refl _) _
  have HBL0 := Lib.hid (Blk.new w 25 [.int .i64 k, .slice ra r.length rc, .int .i64 ast, .slice sa l.length sc, .int .i64 mn, .int .i64 mx, .bool z, .int .i64 ix, .string nm])
  have xr0 : (w.alloc (.cells #[.int .i64 k, .slice ra r.length rc, .int .i64 ast, .slice sa l.length sc, .int .i64 mn, .int .i64 mx, .bool z, .int .i64 ix, .string nm] 25)).cell? ⟨w.heap.size, 0, none⟩ = some (.int .i64 k) := HBL0.out.cell 0
  have xr1 : (w.alloc (.cells #[.int .i64 k, .slice ra r.length rc, .int .i64 ast, .slice sa l.length sc, .int .i64 mn, .int .i64 mx, .bool z, .int .i64 ix, .string nm] 25)).cell? ⟨w.heap.size, 1, none⟩ = some (.slice ra r.length rc) := HBL0.out.cell 1
  have xr2 : (w.alloc (.cells #[.int .i64 k, .slice ra r.length rc, .int .i64 ast, .slice sa l.length sc, .int .i64 mn, .int .i64 mx, .bool z, .int .i64 ix, .string nm] 25)).cell? ⟨w.heap.size, 2, none⟩ = some (.int .i64 ast) := HBL0.out.cell 2
  have xr3 : (w.alloc (.cells #[.int .i64 k, .slice ra r.length rc, .int .i64 ast, .slice sa l.length sc, .int .i64 mn, .int .i64 mx, .bool z, .int .i64 ix, .string nm] 25)).cell? ⟨w.heap.size, 3, none⟩ = some (.slice sa l.length sc) := HBL0.out.cell 3
  have xr4 : (w.alloc (.cells #[.int .i64 k, .slice ra r.length rc, .int .i64 ast, .slice sa l.length sc, .int .i64 mn, .int .i64 mx, .bool z, .int .i64 ix, .string nm] 25)).cell? ⟨w.heap.size, 4, none⟩ = some (.int .i64 mn) := HBL0.out.cell 4
  have xr5 : (w.alloc (.cells #[.int .i64 k, .slice ra r.length rc, .int .i64 ast, .slice sa l.length sc, .int .i64 mn, .int .i64 mx, .bool z, .int .i64 ix, .string nm] 25)).cell? ⟨w.heap.size, 5, none⟩ = some (.int .i64 mx) := HBL0.out.cell 5
  have xr6 : (w.alloc (.cells #[.int .i64 k, .slice ra r.length rc, .int .i64 ast, .slice sa l.length sc, .int .i64 mn, .int .i64 mx, .bool z, .int .i64 ix, .string nm] 25)).cell? ⟨w.heap.size, 6, none⟩ = some (.bool z) := HBL0.out.cell 6
  have xr7 : (w.alloc (.cells #[.int .i64 k, .slice ra r.length rc, .int .i64 ast, .slice sa l.length sc, .int .i64 mn, .int .i64 mx, .bool z, .int .i64 ix, .string nm] 25)).cell? ⟨w.heap.size, 7, none⟩ = some (.int .i64 ix) := HBL0.out.cell 7
  have xr8 : (w.alloc (.cells #[.int .i64 k, .slice ra r.length rc, .int .i64 ast, .slice sa l.length sc, .int .i64 mn, .int .i64 mx, .bool z, .int .i64 ix, .string nm] 25)).cell? ⟨w.heap.size, 8, none⟩ = some (.string nm) := HBL0.out.cell 8
  have HB0 := Lib.hid hb0
  have hn := htx.1
  have hc := htx.2.1
  have htl : t.length = n := by have := htx.2.2.1; rw [List.length_map] at this; omega
  have hde := fun (w' : World) (hb : Below w.heap.size w w') => deep_any (Ta.mk k r ra rc ast l sa sc mn mx z ix nm) (· < w'.heap.size) w' (rt_up h hS hb) (fun b hb => hb)
  have hhe := fun (w' : World) (hb : Below w.heap.size w w') => heavy_any (Ta.mk k r ra rc ast l sa sc mn mx z ix nm) (· < w'.heap.size) w' (rt_up h hS hb) (fun b hb => hb)
  have hmu := fun (w' : World) (hb : Below w.heap.size w w') => much_any k r ra rc ast l sa sc mn mx z ix nm (· < w'.heap.size) At n c w' (rt_up h hS hb) (fun b hb => hb) hn hc
  have hsi := fun (w' : World) (hb : Below w.heap.size w w') => simplify_any (Ta.mk k r ra rc ast l sa sc mn mx z ix nm) (· < w'.heap.size) w' (rt_up h hS hb) (fun b hb => hb)
  have hpa := fun (w' : World) (hb : Below w.heap.size w w') => parses_all (Ta.mk k r ra rc ast l sa sc mn mx z ix nm) (· < w'.heap.size) At n c at_ t w' (rt_up h hS hb) (fun b hb => hb) hn (rd_up htx hS hb)
  have hpx := fun (w' : World) (hb : Below w.heap.size w w') => rd_up htx hS hb
  obtain ⟨tt, htt⟩ : ∃ tt, tt = (Ta.mk k r ra rc ast l sa sc mn mx z ix nm).tr := ⟨_, rfl⟩
  rw [← htt] at hde hsi hpa
  simp only [Ta.val, Ta.vals] at hde hhe hmu hsi hpa
  have HDE := Lib.hid hde
  have HHE := Lib.hid hhe
  have HMU := Lib.hid hmu
  have HSI := Lib.hid hsi
  have HPA := Lib.hid hpa
  have HPX := Lib.hid hpx
  have HTL := Lib.hid htl
  simp only [Ta.val, Ta.vals]
  clear h hS hb0 htt hde hhe hmu hsi hpa hpx htl htx
  go_enter Try.func3, Try.ntmps3
  go_wp2_with fail
  generalize (w.alloc (.cells #[.int .i64 k, .slice ra r.length rc, .int .i64 ast, .slice sa l.length sc, .int .i64 mn, .int .i64 mx, .bool z, .int .i64 ix, .string nm] 25)) = w0 at *
  refine (HDE.out w0 HB0.out).mono ?_
  rintro e w2 ⟨rfl, hb2⟩
  have HB2 := Lib.hid (HB0.out.trans (hb2.mono HB0.out.size))
  have HBL2 := Lib.hid (HBL0.out.below hb2 HBL0.out.lt)
  have xs0 : w2.cell? ⟨w.heap.size, 0, none⟩ = some (.int .i64 k) := HBL2.out.cell 0
  have xs1 : w2.cell? ⟨w.heap.size, 1, none⟩ = some (.slice ra r.length rc) := HBL2.out.cell 1
  have xs2 : w2.cell? ⟨w.heap.size, 2, none⟩ = some (.int .i64 ast) := HBL2.out.cell 2
  have xs3 : w2.cell? ⟨w.heap.size, 3, none⟩ = some (.slice sa l.length sc) := HBL2.out.cell 3
  have xs4 : w2.cell? ⟨w.heap.size, 4, none⟩ = some (.int .i64 mn) := HBL2.out.cell 4
  have xs5 : w2.cell? ⟨w.heap.size, 5, none⟩ = some (.int .i64 mx) := HBL2.out.cell 5
  have xs6 : w2.cell? ⟨w.heap.size, 6, none⟩ = some (.bool z) := HBL2.out.cell 6
  have xs7 : w2.cell? ⟨w.heap.size, 7, none⟩ = some (.int .i64 ix) := HBL2.out.cell 7
  have xs8 : w2.cell? ⟨w.heap.size, 8, none⟩ = some (.string nm) := HBL2.out.cell 8
  clear hb2 xr0 xr1 xr2 xr3 xr4 xr5 xr6 xr7 xr8
  generalize decide (4194304 < size tt) = deep at *
  cases deep with
  | true =>
    simp only []
    go_wp2_with fail
    go_ret
    exact ⟨rfl, HB2.out⟩
  | false =>
  simp only []
  go_wp2_with fail
  refine (HHE.out w2 HB2.out).mono ?_
  rintro e w3 ⟨⟨heavy, rfl⟩, hb3⟩
  have HB3 := Lib.hid (HB2.out.trans (hb3.mono HB2.out.size))
  have HBL3 := Lib.hid (HBL2.out.below hb3 HBL2.out.lt)
  have xr0 : w3.cell? ⟨w.heap.size, 0, none⟩ = some (.int .i64 k) := HBL3.out.cell 0
  have xr1 : w3.cell? ⟨w.heap.size, 1, none⟩ = some (.slice ra r.length rc) := HBL3.out.cell 1
  have xr2 : w3.cell? ⟨w.heap.size, 2, none⟩ = some (.int .i64 ast) := HBL3.out.cell 2
  have xr3 : w3.cell? ⟨w.heap.size, 3, none⟩ = some (.slice sa l.length sc) := HBL3.out.cell 3
  have xr4 : w3.cell? ⟨w.heap.size, 4, none⟩ = some (.int .i64 mn) := HBL3.out.cell 4
  have xr5 : w3.cell? ⟨w.heap.size, 5, none⟩ = some (.int .i64 mx) := HBL3.out.cell 5
  have xr6 : w3.cell? ⟨w.heap.size, 6, none⟩ = some (.bool z) := HBL3.out.cell 6
  have xr7 : w3.cell? ⟨w.heap.size, 7, none⟩ = some (.int .i64 ix) := HBL3.out.cell 7
  have xr8 : w3.cell? ⟨w.heap.size, 8, none⟩ = some (.string nm) := HBL3.out.cell 8
  clear hb3 xs0 xs1 xs2 xs3 xs4 xs5 xs6 xs7 xs8
  cases heavy with
  | true =>
    simp only []
    go_wp2_with fail
    go_ret
    exact ⟨rfl, HB3.out⟩
  | false =>
  simp only []
  go_wp2_with fail
  refine (HMU.out w3 HB3.out).mono ?_
  rintro e w4 ⟨⟨much, rfl⟩, hb4⟩
  have HB4 := Lib.hid (HB3.out.trans (hb4.mono HB3.out.size))
  have HBL4 := Lib.hid (HBL3.out.below hb4 HBL3.out.lt)
  have xs0 : w4.cell? ⟨w.heap.size, 0, none⟩ = some (.int .i64 k) := HBL4.out.cell 0
  have xs1 : w4.cell? ⟨w.heap.size, 1, none⟩ = some (.slice ra r.length rc) := HBL4.out.cell 1
  have xs2 : w4.cell? ⟨w.heap.size, 2, none⟩ = some (.int .i64 ast) := HBL4.out.cell 2
  have xs3 : w4.cell? ⟨w.heap.size, 3, none⟩ = some (.slice sa l.length sc) := HBL4.out.cell 3
  have xs4 : w4.cell? ⟨w.heap.size, 4, none⟩ = some (.int .i64 mn) := HBL4.out.cell 4
  have xs5 : w4.cell? ⟨w.heap.size, 5, none⟩ = some (.int .i64 mx) := HBL4.out.cell 5
  have xs6 : w4.cell? ⟨w.heap.size, 6, none⟩ = some (.bool z) := HBL4.out.cell 6
  have xs7 : w4.cell? ⟨w.heap.size, 7, none⟩ = some (.int .i64 ix) := HBL4.out.cell 7
  have xs8 : w4.cell? ⟨w.heap.size, 8, none⟩ = some (.string nm) := HBL4.out.cell 8
  clear hb4 xr0 xr1 xr2 xr3 xr4 xr5 xr6 xr7 xr8
  cases much with
  | true =>
    simp only []
    go_wp2_with fail
    go_ret
    exact ⟨rfl, HB4.out⟩
  | false =>
  simp only []
  go_wp2_with fail
  refine (awake_any w4).mono ?_
  rintro e w5 ⟨rfl, hb5⟩
  have HB5 := Lib.hid (HB4.out.trans (hb5.mono HB4.out.size))
  have HBL5 := Lib.hid (HBL4.out.below hb5 HBL4.out.lt)
  have xr0 : w5.cell? ⟨w.heap.size, 0, none⟩ = some (.int .i64 k) := HBL5.out.cell 0
  have xr1 : w5.cell? ⟨w.heap.size, 1, none⟩ = some (.slice ra r.length rc) := HBL5.out.cell 1
  have xr2 : w5.cell? ⟨w.heap.size, 2, none⟩ = some (.int .i64 ast) := HBL5.out.cell 2
  have xr3 : w5.cell? ⟨w.heap.size, 3, none⟩ = some (.slice sa l.length sc) := HBL5.out.cell 3
  have xr4 : w5.cell? ⟨w.heap.size, 4, none⟩ = some (.int .i64 mn) := HBL5.out.cell 4
  have xr5 : w5.cell? ⟨w.heap.size, 5, none⟩ = some (.int .i64 mx) := HBL5.out.cell 5
  have xr6 : w5.cell? ⟨w.heap.size, 6, none⟩ = some (.bool z) := HBL5.out.cell 6
  have xr7 : w5.cell? ⟨w.heap.size, 7, none⟩ = some (.int .i64 ix) := HBL5.out.cell 7
  have xr8 : w5.cell? ⟨w.heap.size, 8, none⟩ = some (.string nm) := HBL5.out.cell 8
  clear hb5 xs0 xs1 xs2 xs3 xs4 xs5 xs6 xs7 xs8
  simp only []
  go_wp2_with fail
  refine (HSI.out w5 HB5.out).mono ?_
  rintro e w7 ⟨u5, rfl, htr5, hrt7, hb7⟩
  have HB7 := Lib.hid (HB5.out.trans (hb7.mono HB5.out.size))
  have HBL7 := Lib.hid (HBL5.out.below hb7 HBL5.out.lt)
  have HTR := Lib.hid htr5
  have HRT7 := Lib.hid hrt7
  clear hb7 htr5 hrt7 xr0 xr1 xr2 xr3 xr4 xr5 xr6 xr7 xr8
  obtain ⟨k5, r5, ra5, rc5, a5, l5, sa5, sc5, n5, m5, z5, i5, s5⟩ := u5
  have hb8 : Below w7.heap.size w7 (w7.alloc (.cells #[.int .i64 k5, .slice ra5 r5.length rc5, .int .i64 a5, .slice sa5 l5.length sc5, .int .i64 n5, .int .i64 m5, .bool z5, .int .i64 i5, .string s5] 25)) := (Below.refl _ _).alloc (Nat.le_refl _) _
  have HB8 := Lib.hid (HB7.out.trans (hb8.mono HB7.out.size))
  have HBL8 := Lib.hid (HBL7.out.below hb8 HBL7.out.lt)
  have HU8 := Lib.hid (Blk.new w7 25 [.int .i64 k5, .slice ra5 r5.length rc5, .int .i64 a5, .slice sa5 l5.length sc5, .int .i64 n5, .int .i64 m5, .bool z5, .int .i64 i5, .string s5])
  have xr0 : (w7.alloc (.cells #[.int .i64 k5, .slice ra5 r5.length rc5, .int .i64 a5, .slice sa5 l5.length sc5, .int .i64 n5, .int .i64 m5, .bool z5, .int .i64 i5, .string s5] 25)).cell? ⟨w.heap.size, 0, none⟩ = some (.int .i64 k) := HBL8.out.cell 0
  have xr1 : (w7.alloc (.cells #[.int .i64 k5, .slice ra5 r5.length rc5, .int .i64 a5, .slice sa5 l5.length sc5, .int .i64 n5, .int .i64 m5, .bool z5, .int .i64 i5, .string s5] 25)).cell? ⟨w.heap.size, 1, none⟩ = some (.slice ra r.length rc) := HBL8.out.cell 1
  have xr2 : (w7.alloc (.cells #[.int .i64 k5, .slice ra5 r5.length rc5, .int .i64 a5, .slice sa5 l5.length sc5, .int .i64 n5, .int .i64 m5, .bool z5, .int .i64 i5, .string s5] 25)).cell? ⟨w.heap.size, 2, none⟩ = some (.int .i64 ast) := HBL8.out.cell 2
  have xr3 : (w7.alloc (.cells #[.int .i64 k5, .slice ra5 r5.length rc5, .int .i64 a5, .slice sa5 l5.length sc5, .int .i64 n5, .int .i64 m5, .bool z5, .int .i64 i5, .string s5] 25)).cell? ⟨w.heap.size, 3, none⟩ = some (.slice sa l.length sc) := HBL8.out.cell 3
  have xr4 : (w7.alloc (.cells #[.int .i64 k5, .slice ra5 r5.length rc5, .int .i64 a5, .slice sa5 l5.length sc5, .int .i64 n5, .int .i64 m5, .bool z5, .int .i64 i5, .string s5] 25)).cell? ⟨w.heap.size, 4, none⟩ = some (.int .i64 mn) := HBL8.out.cell 4
  have xr5 : (w7.alloc (.cells #[.int .i64 k5, .slice ra5 r5.length rc5, .int .i64 a5, .slice sa5 l5.length sc5, .int .i64 n5, .int .i64 m5, .bool z5, .int .i64 i5, .string s5] 25)).cell? ⟨w.heap.size, 5, none⟩ = some (.int .i64 mx) := HBL8.out.cell 5
  have xr6 : (w7.alloc (.cells #[.int .i64 k5, .slice ra5 r5.length rc5, .int .i64 a5, .slice sa5 l5.length sc5, .int .i64 n5, .int .i64 m5, .bool z5, .int .i64 i5, .string s5] 25)).cell? ⟨w.heap.size, 6, none⟩ = some (.bool z) := HBL8.out.cell 6
  have xr7 : (w7.alloc (.cells #[.int .i64 k5, .slice ra5 r5.length rc5, .int .i64 a5, .slice sa5 l5.length sc5, .int .i64 n5, .int .i64 m5, .bool z5, .int .i64 i5, .string s5] 25)).cell? ⟨w.heap.size, 7, none⟩ = some (.int .i64 ix) := HBL8.out.cell 7
  have xr8 : (w7.alloc (.cells #[.int .i64 k5, .slice ra5 r5.length rc5, .int .i64 a5, .slice sa5 l5.length sc5, .int .i64 n5, .int .i64 m5, .bool z5, .int .i64 i5, .string s5] 25)).cell? ⟨w.heap.size, 8, none⟩ = some (.string nm) := HBL8.out.cell 8
  have hp8 := fun (w' : World) (hb : Below (w7.alloc (.cells #[.int .i64 k5, .slice ra5 r5.length rc5, .int .i64 a5, .slice sa5 l5.length sc5, .int .i64 n5, .int .i64 m5, .bool z5, .int .i64 i5, .string s5] 25)).heap.size (w7.alloc (.cells #[.int .i64 k5, .slice ra5 r5.length rc5, .int .i64 a5, .slice sa5 l5.length sc5, .int .i64 n5, .int .i64 m5, .bool z5, .int .i64 i5, .string s5] 25)) w') => parses_all (Ta.mk k5 r5 ra5 rc5 a5 l5 sa5 sc5 n5 m5 z5 i5 s5) (· < w'.heap.size) At n c at_ t w' (((HRT7.out.fr_below hb8).go fun b h => hb.block b h.2.1).mono fun b h => Nat.lt_of_lt_of_le h.2.1 hb.size) (fun b hb => hb) hn (HPX.out _ (HB8.out.trans (hb.mono HB8.out.size)))
  rw [HTR.out] at hp8
  simp only [Ta.val, Ta.vals] at hp8
  have HP8 := Lib.hid hp8
  clear hp8 hb8 HRT7 HTR
  obtain ⟨ee, hee⟩ : ∃ ee, ee = errV tt := ⟨_, rfl⟩
  rw [← hee]
  have HEE := Lib.hid hee
  clear hee
  by_cases he0 : ¬ ee = 0
  · have he1 : (ee == 0) = false := by simpa using he0
    simp only [Ta.val, Ta.vals]
    go_wp2_with fail
    go_ret
    exact ⟨rfl, HB8.out⟩
  replace he0 := Decidable.not_not.1 he0
  subst he0
  obtain ⟨hall, hform⟩ := form_ok HEE.out.symm
  have HALL := Lib.hid hall
  rw [hform] at HP8
  clear hall hform
  simp only [Ta.val, Ta.vals]
  go_wp2_with fail
  generalize (w7.alloc (.cells #[.int .i64 k5, .slice ra5 r5.length rc5, .int .i64 a5, .slice sa5 l5.length sc5, .int .i64 n5, .int .i64 m5, .bool z5, .int .i64 i5, .string s5] 25)) = w8 at *
  refine (HPA.out w8 HB8.out).mono ?_
  rintro e w9 ⟨A1, m1, o1, rfl, hb9, hl1⟩
  have HB9 := Lib.hid (HB8.out.trans (hb9.mono HB8.out.size))
  have HBL9 := Lib.hid (HBL8.out.below hb9 HBL8.out.lt)
  have HU9 := Lib.hid (HU8.out.below hb9 HU8.out.lt)
  have HL1 := Lib.hid hl1
  have HP9 := Lib.hid (HP8.out w9 hb9)
  have d0 : w9.cell? ⟨w7.heap.size, 0, none⟩ = some (.int .i64 k5) := HU9.out.cell 0
  have d1 : w9.cell? ⟨w7.heap.size, 1, none⟩ = some (.slice ra5 r5.length rc5) := HU9.out.cell 1
  have d2 : w9.cell? ⟨w7.heap.size, 2, none⟩ = some (.int .i64 a5) := HU9.out.cell 2
  have d3 : w9.cell? ⟨w7.heap.size, 3, none⟩ = some (.slice sa5 l5.length sc5) := HU9.out.cell 3
  have d4 : w9.cell? ⟨w7.heap.size, 4, none⟩ = some (.int .i64 n5) := HU9.out.cell 4
  have d5 : w9.cell? ⟨w7.heap.size, 5, none⟩ = some (.int .i64 m5) := HU9.out.cell 5
  have d6 : w9.cell? ⟨w7.heap.size, 6, none⟩ = some (.bool z5) := HU9.out.cell 6
  have d7 : w9.cell? ⟨w7.heap.size, 7, none⟩ = some (.int .i64 i5) := HU9.out.cell 7
  have d8 : w9.cell? ⟨w7.heap.size, 8, none⟩ = some (.string s5) := HU9.out.cell 8
  clear hb9 hl1 xr0 xr1 xr2 xr3 xr4 xr5 xr6 xr7 xr8
  simp only []
  go_wp2_with fail
  refine HP9.out.mono ?_
  rintro e w10 ⟨A2, m2, o2, rfl, hb10, hl2⟩
  have HB10 := Lib.hid (HB9.out.trans (hb10.mono HB9.out.size))
  have HL1 := Lib.hid (HL1.out.below hb10)
  have HL2 := Lib.hid hl2
  clear hb10 hl2 d0 d1 d2 d3 d4 d5 d6 d7 d8
  obtain ⟨ea, hea⟩ : ∃ ea, ea = parE tt n at_ := ⟨_, rfl⟩
  obtain ⟨eb, heb⟩ : ∃ eb, eb = parE (simpleS tt) n at_ := ⟨_, rfl⟩
  rw [← hea, ← heb]
  have HEA := Lib.hid hea
  have HEB := Lib.hid heb
  clear hea heb
  by_cases ha0 : ¬ ea = 0
  · have ha1 : (ea == 0) = false := by simpa using ha0
    simp only []
    go_wp2_with fail
    go_ret
    exact ⟨rfl, HB10.out⟩
  replace ha0 := Decidable.not_not.1 ha0
  subst ha0
  by_cases hb0 : ¬ eb = 0
  · have hb1 : (eb == 0) = false := by simpa using hb0
    simp only []
    go_wp2_with fail
    go_ret
    exact ⟨rfl, HB10.out⟩
  replace hb0 := Decidable.not_not.1 hb0
  subst hb0
  have hsp : Calls Try.prog 10 #[.slice A1 m1 o1, .slice A2 m2 o2] w10 fun e w' => e = .returned (.bool true) ∧ Below w10.heap.size w10 w' := by
    obtain ⟨a0, pa, rfl, h2, h3, h4, h5⟩ := HL1.out HEA.out.symm
    obtain ⟨a1, pb, g1, g2, g3, g4, g5⟩ := HL2.out HEB.out.symm
    obtain rfl : a0 = a1 := by omega
    obtain ⟨q1, q2⟩ := means_left h3 g3 HALL.out (by have := (par_parts HEA.out.symm).2.2; rw [HTL.out]; omega)
    obtain rfl : m1 = m2 := by omega
    exact samePs_any A1 A2 o1 o2 m1 pa pb w10 h4 g4 h5 g5 h2.symm g2.symm q2
  have HSP := Lib.hid hsp
  clear hsp
  simp only []
  go_wp2_with fail
  refine HSP.out.mono ?_
  rintro e w11 ⟨rfl, hb11⟩
  simp only []
  go_wp2_with fail
  go_ret
  exact ⟨rfl, HB10.out.trans (hb11.mono HB10.out.size)⟩
end Go.Proofs.Yteimpcjafgllpaa
