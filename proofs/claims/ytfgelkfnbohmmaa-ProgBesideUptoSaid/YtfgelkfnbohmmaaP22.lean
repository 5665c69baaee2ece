/- simplify.simple's closure build: a row, alternatives. -/
import Derived.Test.YtfgelkfnbohmmaaP21
namespace Go.Proofs.Ytfgelkfnbohmmaa
open Go.RowKit Go.Proofs.Ytfgelkfnbohmmaa.Tr
set_option maxRecDepth 100000 in
set_option maxHeartbeats 2000000 in
theorem bd_cat (k : Int) (r : List (Int × Int)) (ra : Option Addr) (rc : Nat) (ast : Int) (l : List Ta) (sa : Option Addr) (sc : Nat) (mn mx : Int) (z : Bool) (ix : Int) (nm : ByteArray) (S : Nat → Prop) (w : World) (bc ec : Nat) (h : RT w S (.mk k r ra rc ast l sa sc mn mx z ix nm)) (hS : ∀ b, S b → b < w.heap.size) (hcel : CEL bc ec w) (h7 : (k == 7) = false) (h4 : (k == 4) = true) (ih : ∀ u ∈ l, BD u) (hal : ∀ u ∈ l, allB u.tr = true) (hsz : ∀ u ∈ l, size (simpleS u.tr) ≤ 200000) (hp : (putsT (trs l)).length ≤ 200000) :
    Calls Try.prog 65 #[(Ta.mk k r ra rc ast l sa sc mn mx z ix nm).val, .pointer (some ⟨bc, 0, none⟩), .pointer (some ⟨ec, 0, none⟩)] w fun e w' => ∃ u : Ta, e = .returned u.val ∧ u.tr = row (putsT (trs l)) ∧ RT w' (Fr w.heap.size [] w') u ∧ Below w.heap.size w w' := by
  obtain ⟨⟨hR, hrl, hll, hnm⟩, hN, hL⟩ := h.parts
  have hcs : CS w [.int .i64 k, .slice ra r.length rc, .int .i64 ast, .slice sa l.length sc, .int .i64 mn, .int .i64 mx, .bool z, .int .i64 ix, .string nm] ((w.alloc (.cells #[.int .i64 k, .slice ra r.length rc, .int .i64 ast, .slice sa l.length sc, .int .i64 mn, .int .i64 mx, .bool z, .int .i64 ix, .string nm] 25)).alloc (.cells #[.int .i64 0, .slice none 0 0, .int .i64 0, .slice none 0 0, .int .i64 0, .int .i64 0, .bool false, .int .i64 0, .string ⟨#[]⟩] 25)) := ⟨two_below w _ _, (Blk.new w 25 [.int .i64 k, .slice ra r.length rc, .int .i64 ast, .slice sa l.length sc, .int .i64 mn, .int .i64 mx, .bool z, .int .i64 ix, .string nm]).alloc _, two_blk w _ 25 [.int .i64 0, .slice none 0 0, .int .i64 0, .slice none 0 0, .int .i64 0, .int .i64 0, .bool false, .int .i64 0, .string ⟨#[]⟩]⟩
  have hcl := hcel.below hcs.below hcel.lt.1 hcel.lt.2
  have hbl := hcel.lt
  have hsc := hN.1
  have hsc2 := hN.2.1
  have HCS := Lib.hid hcs
  have HCL := Lib.hid hcl
  have hs2 : ((w.alloc (.cells #[.int .i64 k, .slice ra r.length rc, .int .i64 ast, .slice sa l.length sc, .int .i64 mn, .int .i64 mx, .bool z, .int .i64 ix, .string nm] 25)).alloc (.cells #[.int .i64 0, .slice none 0 0, .int .i64 0, .slice none 0 0, .int .i64 0, .int .i64 0, .bool false, .int .i64 0, .string ⟨#[]⟩] 25)).heap.size = w.heap.size + 1 + 1 := by simp
  have hb3 : Below (w.heap.size + 1 + 1) ((w.alloc (.cells #[.int .i64 k, .slice ra r.length rc, .int .i64 ast, .slice sa l.length sc, .int .i64 mn, .int .i64 mx, .bool z, .int .i64 ix, .string nm] 25)).alloc (.cells #[.int .i64 0, .slice none 0 0, .int .i64 0, .slice none 0 0, .int .i64 0, .int .i64 0, .bool false, .int .i64 0, .string ⟨#[]⟩] 25)) (((w.alloc (.cells #[.int .i64 k, .slice ra r.length rc, .int .i64 ast, .slice sa l.length sc, .int .i64 mn, .int .i64 mx, .bool z, .int .i64 ix, .string nm] 25)).alloc (.cells #[.int .i64 0, .slice none 0 0, .int .i64 0, .slice none 0 0, .int .i64 0, .int .i64 0, .bool false, .int .i64 0, .string ⟨#[]⟩] 25)).alloc (.cells #[.slice none 0 0] 122)) := (Below.refl _ _).alloc (by rw [hs2]; exact Nat.le_refl _) _
  have HC3 := Lib.hid (hcs.low hb3)
  have hcl3 := hcl.below hb3 (by omega) (by omega)
  have he : (((w.alloc (.cells #[.int .i64 k, .slice ra r.length rc, .int .i64 ast, .slice sa l.length sc, .int .i64 mn, .int .i64 mx, .bool z, .int .i64 ix, .string nm] 25)).alloc (.cells #[.int .i64 0, .slice none 0 0, .int .i64 0, .slice none 0 0, .int .i64 0, .int .i64 0, .bool false, .int .i64 0, .string ⟨#[]⟩] 25)).alloc (.cells #[.slice none 0 0] 122)).cell? ⟨ec, 0, none⟩ = some (.func (Fn.func 64) #[] #[.pointer (some ⟨bc, 0, none⟩)]) := hcl3.2
  have hs3 : (((w.alloc (.cells #[.int .i64 k, .slice ra r.length rc, .int .i64 ast, .slice sa l.length sc, .int .i64 mn, .int .i64 mx, .bool z, .int .i64 ix, .string nm] 25)).alloc (.cells #[.int .i64 0, .slice none 0 0, .int .i64 0, .slice none 0 0, .int .i64 0, .int .i64 0, .bool false, .int .i64 0, .string ⟨#[]⟩] 25)).alloc (.cells #[.slice none 0 0] 122)).heap.size = w.heap.size + 1 + 1 + 1 := by simp
  have hrow : RowV w.heap.size (w.heap.size + 1 + 1 + 1) [w.heap.size + 1] (w.heap.size + 1 + 1) 122 f1 (.slice none 0 0) [] (((w.alloc (.cells #[.int .i64 k, .slice ra r.length rc, .int .i64 ast, .slice sa l.length sc, .int .i64 mn, .int .i64 mx, .bool z, .int .i64 ix, .string nm] 25)).alloc (.cells #[.int .i64 0, .slice none 0 0, .int .i64 0, .slice none 0 0, .int .i64 0, .int .i64 0, .bool false, .int .i64 0, .string ⟨#[]⟩] 25)).alloc (.cells #[.slice none 0 0] 122)) := by
    have := Blk.new ((w.alloc (.cells #[.int .i64 k, .slice ra r.length rc, .int .i64 ast, .slice sa l.length sc, .int .i64 mn, .int .i64 mx, .bool z, .int .i64 ix, .string nm] 25)).alloc (.cells #[.int .i64 0, .slice none 0 0, .int .i64 0, .slice none 0 0, .int .i64 0, .int .i64 0, .bool false, .int .i64 0, .string ⟨#[]⟩] 25)) 122 [.slice none 0 0]
    rw [hs2] at this
    exact ⟨this, World.ownsRow_nil _ _ _ _, by simp, by simp [Value.ownBlock]⟩
  have HROW := Lib.hid hrow
  have HCL3 := Lib.hid hcl3
  have HN := Lib.hid ((hN.go fun b hb => (HC3.out.below.block b (hS b hb)) : RdA (((w.alloc (.cells #[.int .i64 k, .slice ra r.length rc, .int .i64 ast, .slice sa l.length sc, .int .i64 mn, .int .i64 mx, .bool z, .int .i64 ix, .string nm] 25)).alloc (.cells #[.int .i64 0, .slice none 0 0, .int .i64 0, .slice none 0 0, .int .i64 0, .int .i64 0, .bool false, .int .i64 0, .string ⟨#[]⟩] 25)).alloc (.cells #[.slice none 0 0] 122)) S 9 sa l.length sc (rowT l)))
  have HL := Lib.hid (fun u hu => (hL u hu).below hS HC3.out.below)
  have HSS := Lib.hid hS
  have HIH := Lib.hid ih
  have HAL := Lib.hid hal
  have HSZ := Lib.hid hsz
  have HP := Lib.hid hp
  clear h hR hN hL hS hcs hcl hcel hb3 hcl3 hrow ih hal hsz hp
  simp only [Ta.val, Ta.vals]
  go_enter Try.func65, Try.ntmps65
  go_wp2_with fail
  generalize (((w.alloc (.cells #[.int .i64 k, .slice ra r.length rc, .int .i64 ast, .slice sa l.length sc, .int .i64 mn, .int .i64 mx, .bool z, .int .i64 ix, .string nm] 25)).alloc (.cells #[.int .i64 0, .slice none 0 0, .int .i64 0, .slice none 0 0, .int .i64 0, .int .i64 0, .bool false, .int .i64 0, .string ⟨#[]⟩] 25)).alloc (.cells #[.slice none 0 0] 122)) = w3 at *
  refine (each_put l HIH.out S w.heap.size (w.heap.size + 1 + 1 + 1) [w.heap.size + 1] (w.heap.size + 1 + 1) (.slice none 0 0) sa sc w3 bc ec HN.out HL.out (fun b hb => by have := HSS.out b hb; omega) HROW.out (by omega) (by omega) (by omega) (by intro x hx; simp at hx; omega) HCL3.out (by omega) (by omega) hll HAL.out HSZ.out HP.out).mono ?_
  rintro e w5 ⟨rfl, v, us, hrow5, htu, hb5⟩
  have HC5 := Lib.hid (HC3.out.low hb5)
  have HR5 := Lib.hid hrow5
  have HTU := Lib.hid htu
  have hln : us.length ≤ 1048576 := by rw [← trs_length, htu]; exact Nat.le_trans HP.out (by decide)
  clear hrow5 htu hb5
  simp only []
  go_wp2_with fail
  refine (tree_any w.heap.size (w.heap.size + 1 + 1 + 1) [w.heap.size + 1] (w.heap.size + 1 + 1) v us w5 HR5.out (by omega) (by intro x hx; simp at hx; omega) hln).mono ?_
  rintro e w7 ⟨u7, rfl, htr7, hrt7, hb7⟩
  have HC7 := Lib.hid (HC5.out.bel hb7)
  have HRT7 := Lib.hid (hrt7.fr_less (L' := [w.heap.size + 1]) (by simp))
  have HTR7 := Lib.hid (htr7.trans (by rw [HTU.out]))
  clear htr7 hrt7 hb7
  obtain ⟨k2, r2, ra2, rc2, a2, l2, sa2, sc2, n2, m2, z2, i2, s2⟩ := u7
  have q0 : w7.cell? ⟨w.heap.size + 1, 0, none⟩ = some (.int .i64 0) := HC7.out.res.cell 0
  have q1 : w7.cell? ⟨w.heap.size + 1, 1, none⟩ = some (.slice none 0 0) := HC7.out.res.cell 1
  have q2 : w7.cell? ⟨w.heap.size + 1, 2, none⟩ = some (.int .i64 0) := HC7.out.res.cell 2
  have q3 : w7.cell? ⟨w.heap.size + 1, 3, none⟩ = some (.slice none 0 0) := HC7.out.res.cell 3
  have q4 : w7.cell? ⟨w.heap.size + 1, 4, none⟩ = some (.int .i64 0) := HC7.out.res.cell 4
  have q5 : w7.cell? ⟨w.heap.size + 1, 5, none⟩ = some (.int .i64 0) := HC7.out.res.cell 5
  have q6 : w7.cell? ⟨w.heap.size + 1, 6, none⟩ = some (.bool false) := HC7.out.res.cell 6
  have q7 : w7.cell? ⟨w.heap.size + 1, 7, none⟩ = some (.int .i64 0) := HC7.out.res.cell 7
  have q8 : w7.cell? ⟨w.heap.size + 1, 8, none⟩ = some (.string ⟨#[]⟩) := HC7.out.res.cell 8
  have fz0 := HC7.out.res.frozen 0
  have fz1 := HC7.out.res.frozen 1
  have fz2 := HC7.out.res.frozen 2
  have fz3 := HC7.out.res.frozen 3
  have fz4 := HC7.out.res.frozen 4
  have fz5 := HC7.out.res.frozen 5
  have fz6 := HC7.out.res.frozen 6
  have fz7 := HC7.out.res.frozen 7
  have fz8 := HC7.out.res.frozen 8
  have fz9 := HC7.out.res.lt
  simp only [Ta.val, Ta.vals]
  go_wp2_with fail
  refine bodyPost_ret (node_ret rfl _ _ (w.heap.size + 1) (Ta.mk k2 r2 ra2 rc2 a2 l2 sa2 sc2 n2 m2 z2 i2 s2) rfl (show Blk (((((((((w7.setCell ⟨w.heap.size + 1, 0, none⟩ (.int .i64 k2)).setCell ⟨w.heap.size + 1, 1, none⟩ (.slice ra2 r2.length rc2)).setCell ⟨w.heap.size + 1, 2, none⟩ (.int .i64 a2)).setCell ⟨w.heap.size + 1, 3, none⟩ (.slice sa2 l2.length sc2)).setCell ⟨w.heap.size + 1, 4, none⟩ (.int .i64 n2)).setCell ⟨w.heap.size + 1, 5, none⟩ (.int .i64 m2)).setCell ⟨w.heap.size + 1, 6, none⟩ (.bool z2)).setCell ⟨w.heap.size + 1, 7, none⟩ (.int .i64 i2)).setCell ⟨w.heap.size + 1, 8, none⟩ (.string s2)) (w.heap.size + 1) 25 (Ta.mk k2 r2 ra2 rc2 a2 l2 sa2 sc2 n2 m2 z2 i2 s2).vals from (((((((((HC7.out.res.set_ 0 (.int .i64 k2)).set_ 1 (.slice ra2 r2.length rc2)).set_ 2 (.int .i64 a2)).set_ 3 (.slice sa2 l2.length sc2)).set_ 4 (.int .i64 n2)).set_ 5 (.int .i64 m2)).set_ 6 (.bool z2)).set_ 7 (.int .i64 i2)).set_ 8 (.string s2)))) rfl ?_
  refine ⟨Ta.mk k2 r2 ra2 rc2 a2 l2 sa2 sc2 n2 m2 z2 i2 s2, rfl, HTR7.out, (HRT7.out).fr_kept (kept9 w7 (w.heap.size + 1) 0 (.int .i64 k2) (.slice ra2 r2.length rc2) (.int .i64 a2) (.slice sa2 l2.length sc2) (.int .i64 n2) (.int .i64 m2) (.bool z2) (.int .i64 i2) (.string s2)) (by simp) (by simp), Below.kept HC7.out.below (kept9 w7 (w.heap.size + 1) 0 (.int .i64 k2) (.slice ra2 r2.length rc2) (.int .i64 a2) (.slice sa2 l2.length sc2) (.int .i64 n2) (.int .i64 m2) (.bool z2) (.int .i64 i2) (.string s2)) (by intro b hb; simp at hb; omega) HC7.out.below.size⟩
set_option maxRecDepth 100000 in
set_option maxHeartbeats 2000000 in
theorem bd_alt (k : Int) (r : List (Int × Int)) (ra : Option Addr) (rc : Nat) (ast : Int) (l : List Ta) (sa : Option Addr) (sc : Nat) (mn mx : Int) (z : Bool) (ix : Int) (nm : ByteArray) (S : Nat → Prop) (w : World) (bc ec : Nat) (h : RT w S (.mk k r ra rc ast l sa sc mn mx z ix nm)) (hS : ∀ b, S b → b < w.heap.size) (hcel : CEL bc ec w) (h7 : (k == 7) = false) (h4 : (k == 4) = false) (h5 : (k == 5) = true) (ih : ∀ u ∈ l, BD u) (hal : ∀ u ∈ l, allB u.tr = true) (hsz : ∀ u ∈ l, size (simpleS u.tr) ≤ 200000) (hp : (altsT (trs l)).length ≤ 200000) :
    Calls Try.prog 65 #[(Ta.mk k r ra rc ast l sa sc mn mx z ix nm).val, .pointer (some ⟨bc, 0, none⟩), .pointer (some ⟨ec, 0, none⟩)] w fun e w' => ∃ u : Ta, e = .returned u.val ∧ u.tr = altT (altsT (trs l)) ∧ RT w' (Fr w.heap.size [] w') u ∧ Below w.heap.size w w' := by
  obtain ⟨⟨hR, hrl, hll, hnm⟩, hN, hL⟩ := h.parts
  have hcs : CS w [.int .i64 k, .slice ra r.length rc, .int .i64 ast, .slice sa l.length sc, .int .i64 mn, .int .i64 mx, .bool z, .int .i64 ix, .string nm] ((w.alloc (.cells #[.int .i64 k, .slice ra r.length rc, .int .i64 ast, .slice sa l.length sc, .int .i64 mn, .int .i64 mx, .bool z, .int .i64 ix, .string nm] 25)).alloc (.cells #[.int .i64 0, .slice none 0 0, .int .i64 0, .slice none 0 0, .int .i64 0, .int .i64 0, .bool false, .int .i64 0, .string ⟨#[]⟩] 25)) := ⟨two_below w _ _, (Blk.new w 25 [.int .i64 k, .slice ra r.length rc, .int .i64 ast, .slice sa l.length sc, .int .i64 mn, .int .i64 mx, .bool z, .int .i64 ix, .string nm]).alloc _, two_blk w _ 25 [.int .i64 0, .slice none 0 0, .int .i64 0, .slice none 0 0, .int .i64 0, .int .i64 0, .bool false, .int .i64 0, .string ⟨#[]⟩]⟩
  have hcl := hcel.below hcs.below hcel.lt.1 hcel.lt.2
  have hbl := hcel.lt
  have hsc := hN.1
  have hsc2 := hN.2.1
  have HCS := Lib.hid hcs
  have HCL := Lib.hid hcl
  have hs2 : ((w.alloc (.cells #[.int .i64 k, .slice ra r.length rc, .int .i64 ast, .slice sa l.length sc, .int .i64 mn, .int .i64 mx, .bool z, .int .i64 ix, .string nm] 25)).alloc (.cells #[.int .i64 0, .slice none 0 0, .int .i64 0, .slice none 0 0, .int .i64 0, .int .i64 0, .bool false, .int .i64 0, .string ⟨#[]⟩] 25)).heap.size = w.heap.size + 1 + 1 := by simp
  have hb3 : Below (w.heap.size + 1 + 1) ((w.alloc (.cells #[.int .i64 k, .slice ra r.length rc, .int .i64 ast, .slice sa l.length sc, .int .i64 mn, .int .i64 mx, .bool z, .int .i64 ix, .string nm] 25)).alloc (.cells #[.int .i64 0, .slice none 0 0, .int .i64 0, .slice none 0 0, .int .i64 0, .int .i64 0, .bool false, .int .i64 0, .string ⟨#[]⟩] 25)) (((w.alloc (.cells #[.int .i64 k, .slice ra r.length rc, .int .i64 ast, .slice sa l.length sc, .int .i64 mn, .int .i64 mx, .bool z, .int .i64 ix, .string nm] 25)).alloc (.cells #[.int .i64 0, .slice none 0 0, .int .i64 0, .slice none 0 0, .int .i64 0, .int .i64 0, .bool false, .int .i64 0, .string ⟨#[]⟩] 25)).alloc (.cells #[.int .i64 5, .slice none 0 0, .int .i64 0, .slice none 0 0, .int .i64 0, .int .i64 0, .bool false, .int .i64 0, .string ⟨#[]⟩] 25)) := (Below.refl _ _).alloc (by rw [hs2]; exact Nat.le_refl _) _
  have HC3 := Lib.hid (hcs.low hb3)
  have hcl3 := hcl.below hb3 (by omega) (by omega)
  have he : (((w.alloc (.cells #[.int .i64 k, .slice ra r.length rc, .int .i64 ast, .slice sa l.length sc, .int .i64 mn, .int .i64 mx, .bool z, .int .i64 ix, .string nm] 25)).alloc (.cells #[.int .i64 0, .slice none 0 0, .int .i64 0, .slice none 0 0, .int .i64 0, .int .i64 0, .bool false, .int .i64 0, .string ⟨#[]⟩] 25)).alloc (.cells #[.int .i64 5, .slice none 0 0, .int .i64 0, .slice none 0 0, .int .i64 0, .int .i64 0, .bool false, .int .i64 0, .string ⟨#[]⟩] 25)).cell? ⟨ec, 0, none⟩ = some (.func (Fn.func 64) #[] #[.pointer (some ⟨bc, 0, none⟩)]) := hcl3.2
  have hs3 : (((w.alloc (.cells #[.int .i64 k, .slice ra r.length rc, .int .i64 ast, .slice sa l.length sc, .int .i64 mn, .int .i64 mx, .bool z, .int .i64 ix, .string nm] 25)).alloc (.cells #[.int .i64 0, .slice none 0 0, .int .i64 0, .slice none 0 0, .int .i64 0, .int .i64 0, .bool false, .int .i64 0, .string ⟨#[]⟩] 25)).alloc (.cells #[.int .i64 5, .slice none 0 0, .int .i64 0, .slice none 0 0, .int .i64 0, .int .i64 0, .bool false, .int .i64 0, .string ⟨#[]⟩] 25)).heap.size = w.heap.size + 1 + 1 + 1 := by simp
  have hrow : RowV w.heap.size (w.heap.size + 1 + 1 + 1) [w.heap.size + 1] (w.heap.size + 1 + 1) 25 f2 (.slice none 0 0) [] (((w.alloc (.cells #[.int .i64 k, .slice ra r.length rc, .int .i64 ast, .slice sa l.length sc, .int .i64 mn, .int .i64 mx, .bool z, .int .i64 ix, .string nm] 25)).alloc (.cells #[.int .i64 0, .slice none 0 0, .int .i64 0, .slice none 0 0, .int .i64 0, .int .i64 0, .bool false, .int .i64 0, .string ⟨#[]⟩] 25)).alloc (.cells #[.int .i64 5, .slice none 0 0, .int .i64 0, .slice none 0 0, .int .i64 0, .int .i64 0, .bool false, .int .i64 0, .string ⟨#[]⟩] 25)) := by
    have := Blk.new ((w.alloc (.cells #[.int .i64 k, .slice ra r.length rc, .int .i64 ast, .slice sa l.length sc, .int .i64 mn, .int .i64 mx, .bool z, .int .i64 ix, .string nm] 25)).alloc (.cells #[.int .i64 0, .slice none 0 0, .int .i64 0, .slice none 0 0, .int .i64 0, .int .i64 0, .bool false, .int .i64 0, .string ⟨#[]⟩] 25)) 25 [.int .i64 5, .slice none 0 0, .int .i64 0, .slice none 0 0, .int .i64 0, .int .i64 0, .bool false, .int .i64 0, .string ⟨#[]⟩]
    rw [hs2] at this
    exact ⟨this, World.ownsRow_nil _ _ _ _, by simp, by simp [Value.ownBlock]⟩
  have HROW := Lib.hid hrow
  have HCL3 := Lib.hid hcl3
  have HN := Lib.hid ((hN.go fun b hb => (HC3.out.below.block b (hS b hb)) : RdA (((w.alloc (.cells #[.int .i64 k, .slice ra r.length rc, .int .i64 ast, .slice sa l.length sc, .int .i64 mn, .int .i64 mx, .bool z, .int .i64 ix, .string nm] 25)).alloc (.cells #[.int .i64 0, .slice none 0 0, .int .i64 0, .slice none 0 0, .int .i64 0, .int .i64 0, .bool false, .int .i64 0, .string ⟨#[]⟩] 25)).alloc (.cells #[.int .i64 5, .slice none 0 0, .int .i64 0, .slice none 0 0, .int .i64 0, .int .i64 0, .bool false, .int .i64 0, .string ⟨#[]⟩] 25)) S 9 sa l.length sc (rowT l)))
  have HL := Lib.hid (fun u hu => (hL u hu).below hS HC3.out.below)
  have HSS := Lib.hid hS
  have HIH := Lib.hid ih
  have HAL := Lib.hid hal
  have HSZ := Lib.hid hsz
  have HP := Lib.hid hp
  clear h hR hN hL hS hcs hcl hcel hb3 hcl3 hrow ih hal hsz hp
  simp only [Ta.val, Ta.vals]
  go_enter Try.func65, Try.ntmps65
  go_wp2_with fail
  generalize (((w.alloc (.cells #[.int .i64 k, .slice ra r.length rc, .int .i64 ast, .slice sa l.length sc, .int .i64 mn, .int .i64 mx, .bool z, .int .i64 ix, .string nm] 25)).alloc (.cells #[.int .i64 0, .slice none 0 0, .int .i64 0, .slice none 0 0, .int .i64 0, .int .i64 0, .bool false, .int .i64 0, .string ⟨#[]⟩] 25)).alloc (.cells #[.int .i64 5, .slice none 0 0, .int .i64 0, .slice none 0 0, .int .i64 0, .int .i64 0, .bool false, .int .i64 0, .string ⟨#[]⟩] 25)) = w3 at *
  refine (each_alt l HIH.out S w.heap.size (w.heap.size + 1 + 1 + 1) [w.heap.size + 1] (w.heap.size + 1 + 1) (.slice none 0 0) sa sc w3 bc ec HN.out HL.out (fun b hb => by have := HSS.out b hb; omega) HROW.out (by omega) (by omega) (by omega) (by intro x hx; simp at hx; omega) HCL3.out (by omega) (by omega) hll HAL.out HSZ.out HP.out).mono ?_
  rintro e w5 ⟨rfl, v, us, hrow5, htu, hb5⟩
  have HC5 := Lib.hid (HC3.out.low hb5)
  have HR5 := Lib.hid hrow5
  have HTU := Lib.hid htu
  have hln : us.length ≤ 1048576 := by rw [← trs_length, htu]; exact Nat.le_trans HP.out (by decide)
  obtain ⟨A, c, rfl⟩ := own_shape hrow5.own
  clear hrow5 htu hb5
  have q0 : w5.cell? ⟨w.heap.size + 1, 0, none⟩ = some (.int .i64 0) := HC5.out.res.cell 0
  have q1 : w5.cell? ⟨w.heap.size + 1, 1, none⟩ = some (.slice none 0 0) := HC5.out.res.cell 1
  have q2 : w5.cell? ⟨w.heap.size + 1, 2, none⟩ = some (.int .i64 0) := HC5.out.res.cell 2
  have q3 : w5.cell? ⟨w.heap.size + 1, 3, none⟩ = some (.slice none 0 0) := HC5.out.res.cell 3
  have q4 : w5.cell? ⟨w.heap.size + 1, 4, none⟩ = some (.int .i64 0) := HC5.out.res.cell 4
  have q5 : w5.cell? ⟨w.heap.size + 1, 5, none⟩ = some (.int .i64 0) := HC5.out.res.cell 5
  have q6 : w5.cell? ⟨w.heap.size + 1, 6, none⟩ = some (.bool false) := HC5.out.res.cell 6
  have q7 : w5.cell? ⟨w.heap.size + 1, 7, none⟩ = some (.int .i64 0) := HC5.out.res.cell 7
  have q8 : w5.cell? ⟨w.heap.size + 1, 8, none⟩ = some (.string ⟨#[]⟩) := HC5.out.res.cell 8
  have fz0 := HC5.out.res.frozen 0
  have fz1 := HC5.out.res.frozen 1
  have fz2 := HC5.out.res.frozen 2
  have fz3 := HC5.out.res.frozen 3
  have fz4 := HC5.out.res.frozen 4
  have fz5 := HC5.out.res.frozen 5
  have fz6 := HC5.out.res.frozen 6
  have fz7 := HC5.out.res.frozen 7
  have fz8 := HC5.out.res.frozen 8
  have fz9 := HC5.out.res.lt
  have o0 : w5.cell? ⟨w.heap.size + 1 + 1, 0, none⟩ = some (.int .i64 5) := HR5.out.blk.cell 0
  have o1 : w5.cell? ⟨w.heap.size + 1 + 1, 1, none⟩ = some (.slice none 0 0) := HR5.out.blk.cell 1
  have o2 : w5.cell? ⟨w.heap.size + 1 + 1, 2, none⟩ = some (.int .i64 0) := HR5.out.blk.cell 2
  have o3 : w5.cell? ⟨w.heap.size + 1 + 1, 3, none⟩ = some (.slice A us.length c) := HR5.out.blk.cell 3
  have o4 : w5.cell? ⟨w.heap.size + 1 + 1, 4, none⟩ = some (.int .i64 0) := HR5.out.blk.cell 4
  have o5 : w5.cell? ⟨w.heap.size + 1 + 1, 5, none⟩ = some (.int .i64 0) := HR5.out.blk.cell 5
  have o6 : w5.cell? ⟨w.heap.size + 1 + 1, 6, none⟩ = some (.bool false) := HR5.out.blk.cell 6
  have o7 : w5.cell? ⟨w.heap.size + 1 + 1, 7, none⟩ = some (.int .i64 0) := HR5.out.blk.cell 7
  have o8 : w5.cell? ⟨w.heap.size + 1 + 1, 8, none⟩ = some (.string ⟨#[]⟩) := HR5.out.blk.cell 8
  have hRT : RT w5 (Fr w.heap.size [w.heap.size + 1] w5) (Ta.mk 5 [] none 0 0 us A c 0 0 false 0 ⟨#[]⟩) := by
    refine RT.of ⟨RdA.none_, by simp, hln, by decide⟩ ?_ fun u hu => (HR5.out.els u hu).fr_less (by simp)
    obtain ⟨A', c', he', hra⟩ := RdA.of_own (L := [w.heap.size + 1]) (own_lower HR5.out.own (show w.heap.size ≤ w.heap.size + 1 + 1 + 1 by omega)) (fun b hb hm => by simp at hm; have := (HR5.out.own.lt b hb).1; omega)
    cases he'
    exact hra
  have HRT := Lib.hid hRT
  clear hRT
  simp only []
  go_wp2_with fail
  refine bodyPost_ret (node_ret rfl _ _ (w.heap.size + 1) (Ta.mk 5 [] none 0 0 us A c 0 0 false 0 ⟨#[]⟩) rfl (show Blk (((((((((w5.setCell ⟨w.heap.size + 1, 0, none⟩ (.int .i64 5)).setCell ⟨w.heap.size + 1, 1, none⟩ (.slice none 0 0)).setCell ⟨w.heap.size + 1, 2, none⟩ (.int .i64 0)).setCell ⟨w.heap.size + 1, 3, none⟩ (.slice A us.length c)).setCell ⟨w.heap.size + 1, 4, none⟩ (.int .i64 0)).setCell ⟨w.heap.size + 1, 5, none⟩ (.int .i64 0)).setCell ⟨w.heap.size + 1, 6, none⟩ (.bool false)).setCell ⟨w.heap.size + 1, 7, none⟩ (.int .i64 0)).setCell ⟨w.heap.size + 1, 8, none⟩ (.string ⟨#[]⟩)) (w.heap.size + 1) 25 (Ta.mk 5 [] none 0 0 us A c 0 0 false 0 ⟨#[]⟩).vals from (((((((((HC5.out.res.set_ 0 (.int .i64 5)).set_ 1 (.slice none 0 0)).set_ 2 (.int .i64 0)).set_ 3 (.slice A us.length c)).set_ 4 (.int .i64 0)).set_ 5 (.int .i64 0)).set_ 6 (.bool false)).set_ 7 (.int .i64 0)).set_ 8 (.string ⟨#[]⟩)))) rfl ?_
  refine ⟨Ta.mk 5 [] none 0 0 us A c 0 0 false 0 ⟨#[]⟩, rfl, (by rw [Ta.tr, HTU.out]; rfl), (HRT.out).fr_kept (kept9 w5 (w.heap.size + 1) 0 (.int .i64 5) (.slice none 0 0) (.int .i64 0) (.slice A us.length c) (.int .i64 0) (.int .i64 0) (.bool false) (.int .i64 0) (.string ⟨#[]⟩)) (by simp) (by simp), Below.kept HC5.out.below (kept9 w5 (w.heap.size + 1) 0 (.int .i64 5) (.slice none 0 0) (.int .i64 0) (.slice A us.length c) (.int .i64 0) (.int .i64 0) (.bool false) (.int .i64 0) (.string ⟨#[]⟩)) (by intro b hb; simp at hb; omega) HC5.out.below.size⟩
end Go.Proofs.Ytfgelkfnbohmmaa
