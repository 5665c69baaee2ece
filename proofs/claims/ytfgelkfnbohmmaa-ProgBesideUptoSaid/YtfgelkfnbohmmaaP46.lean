/- prog.Join: programs side by side. -/
import Derived.Deep.LoopGhost
import Derived.Deep.Cut
import Derived.BigRegion
import Derived.BigQuiet
import Derived.OwnWalk
import Derived.Test.YtfgelkfnbohmmaaP14
import Derived.Test.YtfgelkfnbohmmaaP15
import Derived.Test.YtfgelkfnbohmmaaP42
import Derived.Test.YtfgelkfnbohmmaaP45
namespace Go.Proofs.Ytfgelkfnbohmmaa
open Go.RowKit Go.Proofs.Ytfgelkfnbohmmaa.Mach
/-- What Join answers. -/
def JoinPost (w : World) (pl : List PgV) (e : Ending) (w' : World) : Prop :=
  Below w.heap.size w w' ∧ ((∃ er : Int, er ≠ 0 ∧ e = .returned (.tuple #[.agg #[.slice none 0 0, .int .i64 0, .int .i64 0], .int .i64 er])) ∨
    ∃ (A : Option Addr) (n c : Nat) (L : List InV), e = .returned (.tuple #[.agg #[.slice A n c, .int .i64 (joinP (prgs pl)).start, .int .i64 (joinP (prgs pl)).caps], .int .i64 0]) ∧ ReadsP w' w'.heap.size A n c L ∧ insL L = (joinP (prgs pl)).insts ∧
      pl ≠ [] ∧ (∀ p ∈ prgs pl, checkB p = true) ∧ pl.length ≤ 100 ∧ pl.length - 1 + sumJ (prgs pl) ≤ 20000)
def zInsJ : List Value := [.int .i64 0, .int .i64 0, .int .i64 0, .int .i64 0, .slice none 0 0]
def zRowJ : Nat → List Value
  | 0 => []
  | k + 1 => zInsJ ++ zRowJ k
theorem zRowJ_length (k : Nat) : (zRowJ k).length = k * 5 := by
  induction k with
  | zero => rfl
  | succ k ih => rw [zRowJ, List.length_append, ih]; simp [zInsJ]; omega
theorem zRowJ_snoc (k : Nat) : zRowJ (k + 1) = zRowJ k ++ zInsJ := by
  induction k with
  | zero => simp [zRowJ]
  | succ k ih =>
    show zInsJ ++ zRowJ (k + 1) = (zInsJ ++ zRowJ k) ++ zInsJ
    rw [ih, List.append_assoc]
theorem made_insJ (k : Nat) : (madeCells #[.int .i64 0, .int .i64 0, .int .i64 0, .int .i64 0, .slice none 0 0] (k * 5)).toList = zRowJ k := by
  induction k with
  | zero => simp [madeCells, zRowJ]
  | succ k ih =>
    rw [zRowJ_snoc, ← ih, Nat.succ_mul]
    unfold madeCells
    rw [Array.toList_map, Array.toList_map, Array.toList_range, Array.toList_range, List.range_add, List.map_append]
    congr 1
    simp [zInsJ, List.range_succ, Nat.add_mod]
theorem info_instJ : (Try.prog.info? 54).map (fun i => (i.zero, i.size, i.bytes)) = some (some (.agg #[.int .i64 0, .int .i64 0, .int .i64 0, .int .i64 0, .slice none 0 0]), 5, 56) := by kernel_rfl
theorem rng_small {x : Ins} {n : Nat} {caps : Int} (h : mayB x n caps = true) : x.rng.length ≤ 5000 := by
  by_cases h1 : x.op = 1
  · have := may_rng h h1
    unfold rightB at this
    simp only [Bool.and_eq_true, decide_eq_true_eq] at this
    exact this.1
  have : x.rng = [] := by
    unfold mayB at h
    rw [if_neg h1] at h
    by_cases h2 : x.op = 2
    · rw [if_pos h2, decide_eq_true_eq] at h; exact h.2.2.2.2.2
    rw [if_neg h2] at h
    by_cases h3 : x.op = 3
    · rw [if_pos h3, decide_eq_true_eq] at h; exact h.2.2.2.2.2
    rw [if_neg h3] at h
    by_cases h4 : x.op = 4
    · rw [if_pos h4, Bool.and_eq_true, decide_eq_true_eq] at h; exact h.1.2.2.2
    rw [if_neg h4] at h
    by_cases h5 : x.op = 5
    · rw [if_pos h5, decide_eq_true_eq] at h; exact h.2.2.2.2
    rw [if_neg h5] at h
    by_cases h6 : x.op = 6
    · rw [if_pos h6, decide_eq_true_eq] at h; exact h.2.2.2
    rw [if_neg h6] at h
    by_cases h7 : x.op = 7
    · rw [if_pos h7, decide_eq_true_eq] at h; exact h.2.2.2.2
    · rw [if_neg h7] at h; cases h
  rw [this]; simp
theorem may_else {x : Ins} {n : Nat} {caps : Int} (h : mayB x n caps = true) (h5 : x.op ≠ 5) (h6 : x.op ≠ 6) : 0 ≤ x.x ∧ x.x < n := by
  refine may_x h ?_
  by_cases h1 : x.op = 1
  · exact .inl h1
  by_cases h2 : x.op = 2
  · exact .inr (.inl h2)
  by_cases h3 : x.op = 3
  · exact .inr (.inr (.inl h3))
  by_cases h4 : x.op = 4
  · exact .inr (.inr (.inr (.inl h4)))
  by_cases h7 : x.op = 7
  · exact .inr (.inr (.inr (.inr h7)))
  unfold mayB at h
  rw [if_neg h1, if_neg h2, if_neg h3, if_neg h4, if_neg h5, if_neg h6, if_neg h7] at h
  cases h
theorem ins_snocJ (L : List InV) (u : InV) : insL (L ++ [u]) = insL L ++ [u.I] := by unfold insL; simp
theorem set_midJ {α : Type} {A B : List α} {q : Nat} {x : α} (h : A[q]? = some x) (hq : q < B.length) : (A.take q ++ B.drop q).set q x = A.take (q + 1) ++ B.drop (q + 1) := by
  have hA := (List.getElem?_eq_some_iff.1 h).1
  have hl : (A.take q).length = q := by rw [List.length_take]; omega
  rw [List.set_append_right _ _ (by omega), hl, Nat.sub_self, List.take_add_one, h, List.drop_eq_getElem_cons hq, List.set_cons_zero]
  simp
theorem JSt.out_ {w0 w : World} {ob : Nat} {z : Int} {VA : Option Addr} {Vc : Nat} {SV : Value} {LJ : List InV} {cp : Int} {ss : List Nat} (h : JSt w0 ob z (.slice VA LJ.length Vc) SV LJ cp ss w) (x0 x1 x2 : Value) :
    Below w0.heap.size w0 (((w.setCell ⟨w0.heap.size, 0, none⟩ x0).setCell ⟨w0.heap.size, 1, none⟩ x1).setCell ⟨w0.heap.size, 2, none⟩ x2) ∧
    ReadsP (((w.setCell ⟨w0.heap.size, 0, none⟩ x0).setCell ⟨w0.heap.size, 1, none⟩ x1).setCell ⟨w0.heap.size, 2, none⟩ x2) (((w.setCell ⟨w0.heap.size, 0, none⟩ x0).setCell ⟨w0.heap.size, 1, none⟩ x1).setCell ⟨w0.heap.size, 2, none⟩ x2).heap.size VA LJ.length Vc LJ := by
  have hk := kept3 w w0.heap.size x0 x1 x2
  refine ⟨Below.kept h.below hk (by intro g hg; rw [List.mem_singleton] at hg; rw [hg]; exact Nat.le_refl _) h.below.size, ?_, fun v hv => ?_⟩
  · exact Reads.of_own (own_kept h.own hk fun b hb hm => blk_apart h.own h.res (by decide) (by rw [hb, List.mem_singleton.1 hm]))
  · have := own_kept (h.els v hv) hk fun b hb hm => blk_apart (h.els v hv) h.res (by decide) (by rw [hb, List.mem_singleton.1 hm])
    exact ⟨Reads.of_own this, own_noneJ this⟩
theorem info_rangeJ : (Try.prog.info? 52).map (fun i => (i.zero, i.size, i.bytes)) = some (some (.agg #[.int .i64 0, .int .i64 0]), 2, 16) := by kernel_rfl
theorem info_intJ : (Try.prog.info? 3).map (fun i => (i.zero, i.size, i.bytes)) = some (some (.int .i64 0), 1, 8) := by kernel_rfl
theorem make_insJ (a b : Nat) (hab : a ≤ b) (hb : b ≤ 1099511627) (u : World) : (Instr.makeSlice 28 (.int .i64 (a : Int)) (.int .i64 (b : Int))).run Try.prog u =
    .ok (.slice (some ⟨u.heap.size, 0, none⟩) a b) (u.alloc (.cells (zRowJ b).toArray 54)) := by
  obtain ⟨iI, hiI, hz0, hz1, hz2⟩ := info_parts info_instJ
  have h := run_make (P := Try.prog) u 28 54 iI (.agg #[.int .i64 0, .int .i64 0, .int .i64 0, .int .i64 0, .slice none 0 0]) Try.underlying28 hiI hz0 .i64 .i64 (a : Int) (b : Int) (by omega) (by omega) (by rw [hz2]; omega) (by omega)
  have hmd : madeCells #[.int .i64 0, .int .i64 0, .int .i64 0, .int .i64 0, .slice none 0 0] (b * 5) = (zRowJ b).toArray := by
    apply Array.toList_inj.1
    rw [made_insJ]
  rw [Int.toNat_natCast, Int.toNat_natCast] at h
  rw [← hmd]
  simpa [hz1, Value.cells] using h
theorem sumJ_take : ∀ (pl : List PgV) (k : Nat), sumJ (prgs (pl.take k)) ≤ sumJ (prgs pl)
  | [], k => by simp
  | v :: pl, 0 => by simp [prgs, sumJ]
  | v :: pl, k + 1 => by
    have := sumJ_take pl k
    unfold prgs at this ⊢
    rw [List.take_succ_cons, List.map_cons, List.map_cons, sumJ, sumJ]; omega
theorem zRowJ_ins : ∀ k, zRowJ k = insRow (List.replicate k zI)
  | 0 => rfl
  | k + 1 => by rw [zRowJ, zRowJ_ins k, List.replicate_succ]; rfl
theorem zRowJ_take {a b : Nat} (h : a ≤ b) : (zRowJ b).take (a * 5) = zRowJ a := by
  obtain ⟨d, rfl⟩ : ∃ d, b = a + d := ⟨b - a, by omega⟩
  rw [zRowJ_ins, ← List.replicate_append_replicate, insRow_app, ← zRowJ_ins, List.take_append_of_le_length (by rw [zRowJ_length]; exact Nat.le_refl _), List.take_of_length_le (by rw [zRowJ_length]; exact Nat.le_refl _)]
theorem start_j {w wr : World} {m mt : Nat} (hb : Below w.heap.size w wr) (hr : Blk wr w.heap.size 30 [.slice none 0 0, .int .i64 0, .int .i64 0]) (hmm : m ≤ mt) (hmt : mt ≤ 20000) :
    JSt w (wr.heap.size + 1) 0 (.slice (some ⟨wr.heap.size, 0, none⟩) m mt) (.slice none 0 0) (List.replicate m zI) 0 [] ((wr.alloc (.cells (zRowJ mt).toArray 54)).alloc (.cells #[.slice (some ⟨wr.heap.size, 0, none⟩) m mt, .int .i64 0, .int .i64 0] 30)) := by
  have h1 := (Blk.new wr 54 (zRowJ mt)).alloc (.cells #[.slice (some ⟨wr.heap.size, 0, none⟩) m mt, .int .i64 0, .int .i64 0] 30)
  have h2 := Blk.new (wr.alloc (.cells (zRowJ mt).toArray 54)) 30 [.slice (some ⟨wr.heap.size, 0, none⟩) m mt, .int .i64 0, .int .i64 0]
  rw [show (wr.alloc (.cells (zRowJ mt).toArray 54)).heap.size = wr.heap.size + 1 from by simp] at h2
  refine ⟨(hb.alloc hb.size _).alloc (by simp; have := hb.size; omega) _, by have := hr.lt; omega, (hr.alloc _).alloc _, h2, ?_, fun u hu => ?_, World.ownsRow_nil _ _ _ _⟩
  · have := h1.own (base := w.heap.size) (size := 5) (n := m) (c := mt) hb.size hmm (by omega) (zRowJ_length mt)
    rw [zRowJ_take hmm] at this
    rw [List.length_replicate, ← zRowJ_ins]
    exact this
  · rw [(List.mem_replicate.1 hu).2]
    exact World.ownsRow_nil _ _ _ _
set_option maxRecDepth 100000 in
set_option maxHeartbeats 8000000 in
theorem join_any (A : Option Addr) (n c : Nat) (pl : List PgV) (w : World) (h : ReadsG w w.heap.size A n c pl) :
    Calls Try.prog 16 #[.slice A n c] w fun e w' => JoinPost w pl e w' := by
  have hnc := h.1.1
  have hcc := h.1.2.1
  have hpl := h.len
  have HB1 := Lib.hid (show Below w.heap.size w (w.alloc (.cells #[.slice none 0 0, .int .i64 0, .int .i64 0] 30)) from (Below.refl _ _).alloc (Nat.le_refl _) _)
  have HR1 := Lib.hid (Blk.new w 30 [.slice none 0 0, .int .i64 0, .int .i64 0])
  have y0 := HR1.out.cell 0
  have y1 := HR1.out.cell 1
  have y2 := HR1.out.cell 2
  have z0 := HR1.out.frozen 0
  have z1 := HR1.out.frozen 1
  have z2 := HR1.out.frozen 2
  have z3 := HR1.out.lt
  simp only [List.getElem?_cons_succ, List.getElem?_cons_zero] at y0 y1 y2
  have H := Lib.hid h
  have HPL := Lib.hid hpl
  clear h hpl
  go_enter Try.func16, Try.ntmps16
  have bad : ∀ (w2 : World) (er : Int), er ≠ 0 → Below w.heap.size w w2 → Blk w2 w.heap.size 30 [.slice none 0 0, .int .i64 0, .int .i64 0] → JoinPost w pl (.returned (.tuple #[.agg #[.slice none 0 0, .int .i64 0, .int .i64 0], .int .i64 er])) ((((w2.setCell ⟨w.heap.size, 0, none⟩ (.slice none 0 0)).setCell ⟨w.heap.size, 1, none⟩ (.int .i64 0)).setCell ⟨w.heap.size, 2, none⟩ (.int .i64 0))) := fun w2 er he hb hr => by
    refine ⟨?_, .inl ⟨er, he, rfl⟩⟩
    exact Below.kept (Below.kept (Below.kept hb (Kept.setCell _ _) (by simp) hb.size) (Kept.setCell _ _) (by simp) (by simpa [World.setCell] using hb.size)) (Kept.setCell _ _) (by simp) (by simpa [World.setCell] using hb.size)
  have BAD := Lib.hid bad
  clear bad
  by_cases hn0 : n < 1
  · have hn1 : (n : Int) < 1 := by omega
    have hn2 : decide ((n : Int) < 1) = true := by simpa using hn1
    go_wp2_with fail
    refine bodyPost_ret (prog2_ret rfl _ _ w.heap.size (.slice none 0 0) (.int .i64 0) (.int .i64 0) rfl HR1.out) rfl ?_
    exact ⟨HB1.out, .inl ⟨1, by decide, rfl⟩⟩
  have hn1 : ¬ ((n : Int) < 1) := by omega
  have hn2 : decide ((n : Int) < 1) = false := by simpa using hn1
  by_cases hn3 : 100 < n
  · have hn4 : (100 : Int) < (n : Int) := by omega
    go_wp2_with fail
    refine bodyPost_ret (prog2_ret rfl _ _ w.heap.size (.slice none 0 0) (.int .i64 0) (.int .i64 0) rfl HR1.out) rfl ?_
    exact ⟨HB1.out, .inl ⟨1, by decide, rfl⟩⟩
  have hn4 : ¬ ((100 : Int) < (n : Int)) := by omega
  obtain ⟨m, hm⟩ : ∃ m : Nat, (n : Int) - 1 = (m : Int) := ⟨n - 1, by omega⟩
  have HM := Lib.hid (show n = m + 1 ∧ n ≤ 100 from by omega)
  go_wp2_with fail
  clear y0 y1 y2 z0 z1 z2 z3 hn2 hn4
  generalize (w.alloc (.cells #[.slice none 0 0, .int .i64 0, .int .i64 0] 30)) = w1 at *
  go_loopw [30, 4] (fun iv mv wr => ∃ i : Nat, i ≤ n ∧ iv = .int .i64 (i : Int) ∧ mv = .int .i64 ((m + sumJ (prgs (pl.take i)) : Nat) : Int) ∧ Below w.heap.size w wr ∧ Blk wr w.heap.size 30 [.slice none 0 0, .int .i64 0, .int .i64 0] ∧ (∀ p ∈ prgs (pl.take i), checkB p = true) ∧ sumJ (prgs (pl.take i)) ≤ i * 20000) (fun iv _ _ => n - (intOf iv).toNat)
  case atStart => exact ⟨0, Nat.zero_le _, rfl, by simp [prgs, sumJ], HB1.out, HR1.out, by simp [prgs], by simp [prgs, sumJ]⟩
  case round =>
    obtain ⟨i, hi, rfl, rfl, hb, hr, hchk, hsum⟩ := hrel
    obtain ⟨sm, hsm⟩ : ∃ sm, sm = sumJ (prgs (pl.take i)) := ⟨_, rfl⟩
    rw [← hsm] at hsum ⊢
    have HSM := Lib.hid hsm
    have HCK := Lib.hid hchk
    have HB := Lib.hid hb
    have HR := Lib.hid hr
    have hsm2 : sm ≤ 2000000 := by have := HM.out.2; omega
    have HSUM := Lib.hid hsum
    clear hsm hchk hb hr hsum
    by_cases hlt : i < n
    · have hlt2 : (i : Int) < (n : Int) := by omega
      obtain ⟨ba, oa, rfl, hba⟩ := H.out.1.at_ (by omega)
      obtain ⟨v, hv⟩ : ∃ v, pl[i]? = some v := ⟨_, List.getElem?_eq_getElem (by rw [HPL.out]; exact hlt)⟩
      have hg := H.out.below HB.out
      obtain ⟨c0, c1, c2⟩ := hg.cells hv
      have HV := Lib.hid hv
      have HVR := Lib.hid (hg.2 v (List.mem_of_getElem? hv))
      obtain ⟨vA, vn, vc, vst, vcp, vL⟩ := v
      simp only [] at c0 c1 c2 HVR
      clear hv hg hba
      have hbx := Blk.new wr 30 [.slice vA vn vc, .int .i64 vst, .int .i64 vcp]
      have q0 := hbx.cell 0
      have q1 := hbx.cell 1
      have q2 := hbx.cell 2
      simp only [List.getElem?_cons_succ, List.getElem?_cons_zero] at q0 q1 q2
      have hb0 : Below wr.heap.size wr (wr.alloc (.cells #[.slice vA vn vc, .int .i64 vst, .int .i64 vcp] 30)) := (Below.refl _ _).alloc (Nat.le_refl _) _
      have HCH := Lib.hid (check_any vA vn vc vL vst vcp (wr.alloc (.cells #[.slice vA vn vc, .int .i64 vst, .int .i64 vcp] 30)) (((HVR.out.more HB.out.size).below hb0).more hb0.size))
      have HB0 := Lib.hid hb0
      have HBX := Lib.hid hbx
      clear hb0 hbx
      go_wp2_with fail
      generalize wr.alloc (.cells #[.slice vA vn vc, .int .i64 vst, .int .i64 vcp] 30) = w2 at *
      refine HCH.out.mono ?_
      rintro e w3 ⟨rfl, hb3⟩
      have HB3 := Lib.hid ((HB.out.trans (HB0.out.mono HB.out.size)).trans (hb3.mono (Nat.le_trans HB.out.size HB0.out.size)))
      have HX3 := Lib.hid (HBX.out.below hb3 HBX.out.lt)
      have HR3 := Lib.hid ((HR.out.below HB0.out HR.out.lt).below hb3 (Nat.lt_of_lt_of_le HR.out.lt HB0.out.size))
      have y0 := HR3.out.cell 0
      have y1 := HR3.out.cell 1
      have y2 := HR3.out.cell 2
      have z0 := HR3.out.frozen 0
      have z1 := HR3.out.frozen 1
      have z2 := HR3.out.frozen 2
      have z3 := HR3.out.lt
      have q0 := HX3.out.cell 0
      simp only [List.getElem?_cons_succ, List.getElem?_cons_zero] at y0 y1 y2 q0
      clear c0 c1 c2 hb3
      cases hck : checkB ⟨insL vL, vst, vcp⟩ with
      | false =>
        rw [show chkE ⟨insL vL, vst, vcp⟩ = 90 from by unfold chkE; rw [hck]; rfl]
        simp only []
        go_wp2_with fail
        refine bodyPost_ret (prog2_ret rfl _ _ w.heap.size (.slice none 0 0) (.int .i64 0) (.int .i64 0) rfl (((HR3.out.set_ 0 (.slice none 0 0)).set_ 1 (.int .i64 0)).set_ 2 (.int .i64 0))) rfl ?_
        exact BAD.out w3 90 (by decide) HB3.out HR3.out
      | true =>
        rw [show chkE ⟨insL vL, vst, vcp⟩ = 0 from by unfold chkE; rw [hck]; rfl]
        simp only []
        have hvl : (insL vL).length = vn := by rw [insL, List.length_map]; exact HVR.out.len
        have hvn : vn ≤ 20000 := by have := (head_of hck).2.1; simp only [] at this; omega
        have HVL := Lib.hid hvl
        have HCKV := Lib.hid hck
        clear hvl hck
        go_wp2_with fail
        have htk : prgs (pl.take (i + 1)) = prgs (pl.take i) ++ [⟨insL vL, vst, vcp⟩] := by
          unfold prgs; rw [List.take_add_one, HV.out, List.map_append]; rfl
        refine ⟨⟨i + 1, by omega, by go_num, ?_, HB3.out, HR3.out, ?_, ?_⟩, by simp [intOf]; omega⟩
        · rw [htk, sumJ_snoc, ← HSM.out]
          simp only [HVL.out]
          exact congrArg (Value.int .i64) (by push_cast; omega)
        · rw [htk]
          intro p hp
          rcases List.mem_append.1 hp with hp | hp
          · exact HCK.out p hp
          · rw [List.mem_singleton] at hp; rw [hp]; exact HCKV.out
        · rw [htk, sumJ_snoc, ← HSM.out]
          simp only [HVL.out]
          have := HSUM.out
          omega
    · obtain rfl : i = n := by omega
      have hlt2 : ¬ ((i : Int) < (i : Int)) := by omega
      have htk : pl.take i = pl := List.take_of_length_le (by rw [HPL.out]; exact Nat.le_refl _)
      have HCK := Lib.hid (show ∀ p ∈ prgs pl, checkB p = true from by have := HCK.out; rwa [htk] at this)
      have HSM := Lib.hid (show sm = sumJ (prgs pl) from by have := HSM.out; rwa [htk] at this)
      clear htk
      by_cases hbig : 20000 < m + sm
      · have hbig2 : (20000 : Int) < ((m + sm : Nat) : Int) := by omega
        have y0 := HR.out.cell 0
        have y1 := HR.out.cell 1
        have y2 := HR.out.cell 2
        have z0 := HR.out.frozen 0
        have z1 := HR.out.frozen 1
        have z2 := HR.out.frozen 2
        have z3 := HR.out.lt
        simp only [List.getElem?_cons_succ, List.getElem?_cons_zero] at y0 y1 y2
        go_wp2_with fail
        refine bodyPost_ret (prog2_ret rfl _ _ w.heap.size (.slice none 0 0) (.int .i64 0) (.int .i64 0) rfl (((HR.out.set_ 0 (.slice none 0 0)).set_ 1 (.int .i64 0)).set_ 2 (.int .i64 0))) rfl ?_
        exact BAD.out wr 3 (by decide) HB.out HR.out
      obtain ⟨mt, hmt⟩ : ∃ mt : Nat, (m : Int) + (sm : Int) = (mt : Int) := ⟨m + sm, by omega⟩
      have hbig2 : ¬ ((20000 : Int) < (mt : Int)) := by omega
      have hmt2 : mt ≤ 20000 := by omega
      have hmm : m ≤ mt := by omega
      have hmk := make_insJ m mt hmm (by omega)
      have HMT := Lib.hid (show mt = m + sm from by omega)
      clear hbig
      go_wp2_with fail
      have hj0 : JSt w (wr.heap.size + 1) 0 (.slice (some ⟨wr.heap.size, 0, none⟩) m mt) (.slice none 0 0) (List.replicate m zI) 0 [] ((wr.alloc (.cells (zRowJ mt).toArray 54)).alloc (.cells #[.slice (some ⟨wr.heap.size, 0, none⟩) m mt, .int .i64 0, .int .i64 0] 30)) := start_j HB.out HR.out hmm hmt2
      have HJ0 := Lib.hid hj0
      have hw5 : wr.heap.size + 1 < ((wr.alloc (.cells (zRowJ mt).toArray 54)).alloc (.cells #[.slice (some ⟨wr.heap.size, 0, none⟩) m mt, .int .i64 0, .int .i64 0] 30)).heap.size := by simp
      clear hj0 hmk hmt
      generalize (wr.alloc (.cells (zRowJ mt).toArray 54)).alloc (.cells #[.slice (some ⟨wr.heap.size, 0, none⟩) m mt, .int .i64 0, .int .i64 0] 30) = w5 at *
      generalize (Value.slice (some ⟨wr.heap.size, 0, none⟩) m mt) = V0 at *
      generalize wr.heap.size + 1 = ob at *
      clear HB HR hw5
      go_loopw [55, 8] (fun kv sv wq => ∃ (k : Nat) (V : Value) (LJ : List InV), k ≤ i ∧ kv = .int .i64 (k : Int) ∧ JSt w ob 0 V sv LJ (capsJ (prgs (pl.take k)) 0) (startsJ (prgs (pl.take k)) m) wq ∧ insL LJ = List.replicate m ⟨0, 0, 0, 0, []⟩ ++ movsJ (prgs (pl.take k)) m 0) (fun kv _ _ => i - (intOf kv).toNat)
      case atStart => exact ⟨0, V0, List.replicate m zI, Nat.zero_le _, rfl, HJ0.out, by simp [prgs, movsJ, insL, zI]⟩
      case round =>
        obtain ⟨k, V, LJ, hk, rfl, hj, hins⟩ := hrel
        obtain ⟨wk, hwk⟩ : ∃ wk, wk = wr := ⟨_, rfl⟩
        subst hwk
        have HJ := Lib.hid hj
        have HINS := Lib.hid hins
        clear hj hins
        by_cases hlt3 : k < i
        · have hlt4 : (k : Int) < (i : Int) := by omega
          obtain ⟨ba, oa, rfl, hba⟩ := H.out.1.at_ (by omega)
          obtain ⟨v, hv⟩ : ∃ v, pl[k]? = some v := ⟨_, List.getElem?_eq_getElem (by rw [HPL.out]; exact hlt3)⟩
          have hg := H.out.below HJ.out.below
          obtain ⟨c0, c1, c2⟩ := hg.cells hv
          have HV := Lib.hid hv
          have HVR := Lib.hid (H.out.2 v (List.mem_of_getElem? hv))
          have hckv := HCK.out v.prg (List.mem_map_of_mem (List.mem_of_getElem? hv))
          obtain ⟨vA, vn, vc, vst, vcp, vL⟩ := v
          simp only [] at c0 c1 c2 HVR
          clear hv hg hba
          have hvl : (insL vL).length = vn := by rw [insL, List.length_map]; exact HVR.out.len
          have hhd := head_of hckv
          simp only [PgV.prg] at hhd
          have hvn : vn ≤ 20000 := by omega
          have hvs : 0 ≤ vst ∧ vst < (vn : Int) := by omega
          have hvc : 2 ≤ vcp ∧ vcp ≤ 1002 := by omega
          have HCKV := Lib.hid hckv
          have HVL := Lib.hid hvl
          have htk : prgs (pl.take (k + 1)) = prgs (pl.take k) ++ [⟨insL vL, vst, vcp⟩] := by
            unfold prgs; rw [List.take_add_one, HV.out, List.map_append]; rfl
          obtain ⟨o, ho⟩ : ∃ o, o = m + sumJ (prgs (pl.take k)) := ⟨_, rfl⟩
          have hLl : LJ.length = o := by
            have := congrArg List.length HINS.out
            rw [insL, List.length_map, List.length_append, List.length_replicate, movsJ_len] at this
            omega
          have hom : o + vn ≤ mt := by
            have h1 := sumJ_take pl (k + 1)
            rw [htk, sumJ_snoc] at h1
            simp only [hvl] at h1
            have h2 := HMT.out
            have h3 := HSM.out
            omega
          obtain ⟨so, hso⟩ : ∃ so : Nat, so = o + vst.toNat := ⟨_, rfl⟩
          have hvs2 : IntKind.i64.wrap ((o : Int) + vst) = (so : Int) := by rw [IntKind.wrap_i64]; omega
          have hvs3 : (o : Int) + vst = (so : Int) := by omega
          have HSO := Lib.hid hso
          clear hso
          have HTK := Lib.hid htk
          have HO := Lib.hid ho
          have HLL := Lib.hid hLl
          have hLl2 := Lib.hid hLl
          clear hvl hhd hckv htk ho
          have hbx := Blk.new wk 30 [.slice vA vn vc, .int .i64 vst, .int .i64 vcp]
          have hb0 : Below wk.heap.size wk (wk.alloc (.cells #[.slice vA vn vc, .int .i64 vst, .int .i64 vcp] 30)) := (Below.refl _ _).alloc (Nat.le_refl _) _
          have HJ1 := Lib.hid (HJ.out.later hb0)
          have HBX := Lib.hid hbx
          have HB0 := Lib.hid hb0
          obtain ⟨VA, Vc, rfl⟩ := own_shape HJ.out.own
          obtain ⟨SA, Sc, rfl⟩ := own_shape HJ.out.st
          have hsl : (startsJ (prgs (pl.take k)) m).length = k := by rw [startsJ_len, prgs, List.length_map, List.length_take, HPL.out]; omega
          have e0 := HJ1.out.blk.cell 0
          have e2 := HJ1.out.blk.cell 2
          simp only [List.getElem?_cons_succ, List.getElem?_cons_zero] at e0 e2
          have q0 := HBX.out.cell 0
          have q1 := HBX.out.cell 1
          have q2 := HBX.out.cell 2
          simp only [List.getElem?_cons_succ, List.getElem?_cons_zero] at q0 q1 q2
          clear hbx hb0
          rw [hLl] at e0
          obtain ⟨i1, hi1, hz10, hz11, hz12⟩ := info_parts info_intJ
          go_upto_region 19 with fail
          have hna := new_at9 (wk.alloc (.cells #[.slice vA vn vc, .int .i64 vst, .int .i64 vcp] 30)) 3 [.int .i64 (so : Int)]
          rw [show (wk.alloc (.cells #[.slice vA vn vc, .int .i64 vst, .int .i64 vcp] 30)).heap.size = wk.heap.size + 1 from by simp] at hna
          have ho2 := own_below HJ1.out.st ((Below.refl _ _).alloc (Nat.le_refl _) (.cells #[.int .i64 (so : Int)] 3))
          have HJ2 := Lib.hid (HJ1.out.later ((Below.refl _ _).alloc (Nat.le_refl _) (.cells #[.int .i64 (so : Int)] 3)))
          have HBX2 := Lib.hid (HBX.out.alloc (.cells #[.int .i64 (so : Int)] 3))
          have hbs := HJ2.out.below.size
          have HSL := Lib.hid hsl
          generalize hss : startsJ (prgs (pl.take k)) m = ss at *
          generalize hcq : capsJ (prgs (pl.take k)) 0 = cq at *
          have HSS := Lib.hid hss
          have HCQ := Lib.hid hcq
          clear hss hcq
          obtain ⟨mxc, hmxc⟩ : ∃ mxc, mxc = max cq vcp := ⟨_, rfl⟩
          have hmx2 : (if cq < vcp then vcp else cq) = mxc := by rw [hmxc]; split <;> omega
          have HMXC := Lib.hid hmxc
          clear hmxc
          have hsl2 : ss.length ≤ 100 := by rw [hsl]; have := HM.out.2; omega
          clear hsl
          go_wp2_with (at_builtin; go_loud (refine wpList_append_lies _ rfl (.tmp 63) (.tmp 68) 36 rfl w.heap.size 3 i1 (.int .i64 0) 1 8 Try.underlying36 hi1 hz10 hz11 hz12 rfl (by decide) (.slice SA ss.length Sc) ss.length (ss.map fun s : Nat => Value.int .i64 (s : Int)) rfl ho2 ⟨wk.heap.size + 1, 0, none⟩ 1 1 [.int .i64 (so : Int)] rfl rfl hna (by simp [Value.oneCell']) (by decide) (by unfold maxLen; omega) (by omega) hbs _ rfl ?_); intro g2 cap2 w6 hou2 hg2 hat2 hlt2; have HJ6 := Lib.hid (HJ2.out.starts hg2 (s := so) (SV' := .slice (some ⟨g2, 0, none⟩) (ss.length + 1) cap2) (by rw [List.map_append]; exact hou2)); have HBX6 := Lib.hid (blk_far HBX2.out HJ2.out.st (by decide) hg2); have f2 := HJ6.out.blk.cell 2; have f3 := HJ6.out.blk.frozen 2; have f4 := HJ6.out.blk.lt; have r2 := HBX6.out.cell 2; have r0 := HBX6.out.cell 0; simp only [List.getElem?_cons_succ, List.getElem?_cons_zero] at f2 r2 r0; clear hou2 hg2 hat2 hlt2)
          have HJ7 := Lib.hid (HJ6.out.caps mxc)
          clear c0 c1 c2 e0 e2 q0 q1 q2 f2 f3 f4 r0 r2 hna ho2 HJ1 HJ2 HJ6 HBX HBX2 HBX6 HB0 hbs hmx2
          generalize w6.setCell ⟨ob, 2, none⟩ (.int .i64 mxc) = w7 at *
          generalize (Value.slice (some ⟨g2, 0, none⟩) (ss.length + 1) cap2) = SV7 at *
          go_loopw [79] (fun jv wq => ∃ (j : Nat) (V : Value) (LK : List InV), j ≤ vn ∧ jv = .int .i64 (j : Int) ∧ JSt w ob 0 V SV7 LK mxc (ss ++ [so]) wq ∧ insL LK = insL LJ ++ ((insL vL).take j).map (mvI o (k : Int))) (fun jv _ => vn - (intOf jv).toNat)
          case atStart => exact ⟨0, _, LJ, Nat.zero_le _, rfl, HJ7.out, by simp⟩
          case round =>
            obtain ⟨j, V, LK, hjn, rfl, hjj, hjins⟩ := hrel
            obtain ⟨wj, hwj⟩ : ∃ wj, wj = wr := ⟨_, rfl⟩
            subst hwj
            have HJJ := Lib.hid hjj
            have HJI := Lib.hid hjins
            have hLK2 : LK.length ≤ 20000 := by
              have := congrArg List.length hjins
              rw [insL, insL, List.length_map, List.length_append, List.length_map, List.length_map, List.length_take, hLl2.out] at this
              omega
            obtain ⟨VB, Vcb, rfl⟩ := own_shape hjj.own
            clear hjj hjins
            by_cases hlt5 : j < vn
            · have hlt6 : (j : Int) < (vn : Int) := by omega
              obtain ⟨vb, vo, hvA, hvb⟩ := HVR.out.at_ (by omega)
              subst hvA
              obtain ⟨x, hx⟩ : ∃ x, vL[j]? = some x := ⟨_, List.getElem?_eq_getElem (by have := HVR.out.len; omega)⟩
              have hvj := HVR.out.below HJJ.out.below
              obtain ⟨i0c, i1c, i2, i3, i4⟩ := hvj.cells hx
              have HXR := Lib.hid (hvj.2 x (List.mem_of_getElem? hx))
              have HX := Lib.hid hx
              have hmay := may_of HCKV.out (i := j) (x := x.I) (by show (insL vL)[j]? = _; rw [insL, List.getElem?_map, hx]; rfl)
              simp only [PgV.prg, HVL.out] at hmay
              have HMAY := Lib.hid hmay
              obtain ⟨⟨op, ix, iy, iarg, irng⟩, iA, inn, ic⟩ := x
              simp only [] at i0c i1c i2 i3 i4 HXR HMAY
              clear hmay hvj hvb hx
              have HB8 := Lib.hid (show Below wj.heap.size wj (wj.alloc (.cells #[.int .i64 op, .int .i64 ix, .int .i64 iy, .int .i64 iarg, .slice iA inn ic] 54)) from (Below.refl _ _).alloc (Nat.le_refl _) _)
              have HX8 := Lib.hid (Blk.new wj 54 [.int .i64 op, .int .i64 ix, .int .i64 iy, .int .i64 iarg, .slice iA inn ic])
              have x4 := HX8.out.cell 4
              simp only [List.getElem?_cons_succ, List.getElem?_cons_zero] at x4
              have hRR := (HXR.out.1.below (B := w.heap.size) (w' := wj.alloc (.cells #[.int .i64 op, .int .i64 ix, .int .i64 iy, .int .i64 iarg, .slice iA inn ic] 54)) (HB8.out.mono HJJ.out.below.size))
              have hicn := hRR.1
              have hinr := hRR.2.2.1
              rw [flat_length] at hinr
              obtain ⟨i2r, hi2, hz20, hz21, hz22⟩ := info_parts info_rangeJ
              have hin2 : inn ≤ 1000000000 := by have := rng_small HMAY.out; simp only [] at this; omega
              go_upto_region 24 with fail
              go_upto_region 25 with (at_builtin; go_loud (refine wpList_append_reads rfl (.const (.slice none 0 0)) (.tmp 84) 22 rfl w.heap.size 52 i2r (.agg #[.int .i64 0, .int .i64 0]) 2 16 Try.underlying22 hi2 hz20 hz21 hz22 rfl (by decide) (.slice none 0 0) 0 [] rfl (World.ownsRow_nil _ _ _ _) iA w.heap.size inn ic (flat irng) rfl HXR.out.2 hRR (flat_one irng) (by unfold maxLen; omega) (by omega) (Nat.le_trans HJJ.out.below.size HB8.out.size) ?_); intro v9 w9 ha9; obtain ⟨A9, c9, h9⟩ := own_shape ha9.own; rw [Nat.zero_add] at h9; subst h9; have HA9 := Lib.hid ha9; have HX9 := Lib.hid (HX8.out.kept (Kept.of_grown' ha9.grown) (by simp [Value.ownBlock])); have x9 := HX9.out.cell 4; have x9f := HX9.out.frozen 4; have x9l := HX9.out.lt; simp only [List.getElem?_cons_succ, List.getElem?_cons_zero] at x9; clear ha9)
              have hb9 : Below wj.heap.size wj (w9.setCell ⟨wj.heap.size, 4, none⟩ (.slice A9 inn c9)) := Below.kept (Below.kept HB8.out (Kept.of_grown' HA9.out.grown) (by simp [Value.ownBlock]) HB8.out.size) (Kept.setCell _ _) (by simp) (Nat.le_trans HB8.out.size HA9.out.grown.size)
              have HRW := Lib.hid (show (w9.setCell ⟨wj.heap.size, 4, none⟩ (.slice A9 inn c9)).ownsRow w.heap.size 52 2 (.slice A9 inn c9) inn (flat irng) from own_set (by have := HA9.out.own; simpa using this) HX9.out (by decide))
              have HXB := Lib.hid (show Blk (w9.setCell ⟨wj.heap.size, 4, none⟩ (.slice A9 inn c9)) wj.heap.size 54 [.int .i64 op, .int .i64 ix, .int .i64 iy, .int .i64 iarg, .slice A9 inn c9] from HX9.out.set_ 4 _)
              have HB9 := Lib.hid hb9
              obtain ⟨i0, hi0, hz00, hz01, hz02⟩ := info_parts info_instJ
              have HTJ := Lib.hid (show (insL vL).take (j + 1) = (insL vL).take j ++ [⟨op, ix, iy, iarg, irng⟩] from by rw [List.take_add_one, insL, List.getElem?_map, HX.out]; rfl)
              clear x9 x9f x9l x4 hRR HA9 HX9 HX8 HXR HB8 hb9 i0c i1c i2 i3 i4
              generalize w9.setCell ⟨wj.heap.size, 4, none⟩ (.slice A9 inn c9) = wa at *
              have x0 := HXB.out.cell 0
              have x1 := HXB.out.cell 1
              have x2 := HXB.out.cell 2
              have x3 := HXB.out.cell 3
              have f0 := HXB.out.frozen 0
              have f1 := HXB.out.frozen 1
              have f2 := HXB.out.frozen 2
              have f3 := HXB.out.frozen 3
              have xl := HXB.out.lt
              simp only [List.getElem?_cons_succ, List.getElem?_cons_zero] at x0 x1 x2 x3
              by_cases h5 : op = 5
              · subst h5
                go_upto_region 33 with fail
                have hbW : Below wj.heap.size wj (wa.setCell ⟨wj.heap.size, 3, none⟩ (.int .i64 (k : Int))) := Below.kept HB9.out (Kept.setCell _ _) (by simp) HB9.out.size
                have hXW : Blk (wa.setCell ⟨wj.heap.size, 3, none⟩ (.int .i64 (k : Int))) wj.heap.size 54 [.int .i64 5, .int .i64 ix, .int .i64 iy, .int .i64 (k : Int), .slice A9 inn c9] := HXB.out.set_ 3 _
                have HRN := Lib.hid (show (wa.setCell ⟨wj.heap.size, 3, none⟩ (.int .i64 (k : Int))).ownsRow w.heap.size 52 2 (.slice A9 inn c9) inn (flat irng) from own_set HRW.out HXB.out (by decide))
                have HMV := Lib.hid (show mvI o (k : Int) ⟨5, ix, iy, iarg, irng⟩ = ⟨5, ix, iy, (k : Int), irng⟩ from by simp [mvI])
                have HJW := Lib.hid (HJJ.out.later hbW)
                clear x0 x1 x2 x3 f0 f1 f2 f3 xl HXB HRW HB9
                generalize (wa.setCell ⟨wj.heap.size, 3, none⟩ (.int .i64 (k : Int))) = wb at *
                have y0 := hXW.cell 0
                have y1 := hXW.cell 1
                have y2 := hXW.cell 2
                have y3 := hXW.cell 3
                have y4 := hXW.cell 4
                have e0 := HJW.out.blk.cell 0
                simp only [List.getElem?_cons_succ, List.getElem?_cons_zero] at y0 y1 y2 y3 y4 e0
                have hna := new_at9 wb 54 [.int .i64 5, .int .i64 ix, .int .i64 iy, .int .i64 (k : Int), .slice A9 inn c9]
                have hal : Below wb.heap.size wb (wb.alloc (.cells #[.int .i64 5, .int .i64 ix, .int .i64 iy, .int .i64 (k : Int), .slice A9 inn c9] 54)) := (Below.refl _ _).alloc (Nat.le_refl _) _
                have HJN := Lib.hid (HJW.out.later hal)
                have HRO := Lib.hid (own_below HRN.out hal)
                have hbs := HJN.out.below.size
                clear hbW hXW hal
                go_wp2_with (at_builtin; go_loud (refine wpList_append_lies _ rfl (.tmp 113) (.tmp 115) 28 rfl w.heap.size 54 i0 (.agg #[.int .i64 0, .int .i64 0, .int .i64 0, .int .i64 0, .slice none 0 0]) 5 56 Try.underlying28 hi0 hz00 hz01 hz02 rfl (by decide) (.slice VB LK.length Vcb) LK.length (insRow LK) rfl HJN.out.own ⟨wb.heap.size, 0, none⟩ 1 1 [.int .i64 5, .int .i64 ix, .int .i64 iy, .int .i64 (k : Int), .slice A9 inn c9] rfl rfl hna (by simp [Value.oneCell']) (by decide) (by unfold maxLen; omega) (by omega) hbs _ rfl ?_; intro g3 cap3 wc hou3 hg3 hat3 hlt3; have HJC := Lib.hid (HJN.out.push hg3 (u := ⟨⟨5, ix, iy, (k : Int), irng⟩, A9, inn, c9⟩) HRO.out (V' := .slice (some ⟨g3, 0, none⟩) (LK.length + 1) cap3) (by rw [insRow_app, insRow_one]; exact hou3)); have hbo := blk_far HJN.out.blk HJN.out.own (by decide) hg3; have t0 := hbo.cell 0; have tf := hbo.frozen 0; have tl := hbo.lt; simp only [List.getElem?_cons_succ, List.getElem?_cons_zero] at t0; clear hou3 hg3 hat3 hlt3 hbo))
                refine ⟨⟨j + 1, _, LK ++ [⟨⟨5, ix, iy, (k : Int), irng⟩, A9, inn, c9⟩], by omega, by go_num, HJC.out, ?_⟩, by simp [intOf]; omega⟩
                rw [ins_snocJ, HJI.out, ← HMV.out, HTJ.out, List.map_append, List.append_assoc]; rfl
              have g5 : (op == 5) = false := by simpa using h5
              by_cases h2 : op = 2
              · subst h2
                obtain ⟨nx, hnx⟩ : ∃ nx : Int, ix + (o : Int) = nx := ⟨_, rfl⟩
                obtain ⟨ny, hny⟩ : ∃ ny : Int, iy + (o : Int) = ny := ⟨_, rfl⟩
                have hbx := (may_else HMAY.out (by show ¬ ((2 : Int) = 5); decide) (by show ¬ ((2 : Int) = 6); decide))
                have hby := (may_y HMAY.out rfl)
                simp only [] at hbx hby
                have wx : IntKind.i64.wrap (ix + (o : Int)) = nx := by rw [IntKind.wrap_i64]; omega
                have wy : IntKind.i64.wrap (iy + (o : Int)) = ny := by rw [IntKind.wrap_i64]; omega
                have HNX := Lib.hid hnx
                have HNY := Lib.hid hny
                go_upto_region 33 with fail
                have hbW : Below wj.heap.size wj ((wa.setCell ⟨wj.heap.size, 2, none⟩ (.int .i64 ny)).setCell ⟨wj.heap.size, 1, none⟩ (.int .i64 nx)) := Below.kept (Below.kept HB9.out (Kept.setCell _ _) (by simp) HB9.out.size) (Kept.setCell _ _) (by simp) (by simpa [World.setCell] using HB9.out.size)
                have hXW : Blk ((wa.setCell ⟨wj.heap.size, 2, none⟩ (.int .i64 ny)).setCell ⟨wj.heap.size, 1, none⟩ (.int .i64 nx)) wj.heap.size 54 [.int .i64 2, .int .i64 nx, .int .i64 ny, .int .i64 iarg, .slice A9 inn c9] := (HXB.out.set_ 2 _).set_ 1 _
                have HRN := Lib.hid (show ((wa.setCell ⟨wj.heap.size, 2, none⟩ (.int .i64 ny)).setCell ⟨wj.heap.size, 1, none⟩ (.int .i64 nx)).ownsRow w.heap.size 52 2 (.slice A9 inn c9) inn (flat irng) from own_set (own_set HRW.out HXB.out (by decide)) (HXB.out.set_ 2 (.int .i64 ny)) (by decide))
                have HMV := Lib.hid (show mvI o (k : Int) ⟨2, ix, iy, iarg, irng⟩ = ⟨2, nx, ny, iarg, irng⟩ from by simp [mvI, HNX.out, HNY.out])
                have HJW := Lib.hid (HJJ.out.later hbW)
                clear x0 x1 x2 x3 f0 f1 f2 f3 xl HXB HRW HB9
                generalize ((wa.setCell ⟨wj.heap.size, 2, none⟩ (.int .i64 ny)).setCell ⟨wj.heap.size, 1, none⟩ (.int .i64 nx)) = wb at *
                have y0 := hXW.cell 0
                have y1 := hXW.cell 1
                have y2 := hXW.cell 2
                have y3 := hXW.cell 3
                have y4 := hXW.cell 4
                have e0 := HJW.out.blk.cell 0
                simp only [List.getElem?_cons_succ, List.getElem?_cons_zero] at y0 y1 y2 y3 y4 e0
                have hna := new_at9 wb 54 [.int .i64 2, .int .i64 nx, .int .i64 ny, .int .i64 iarg, .slice A9 inn c9]
                have hal : Below wb.heap.size wb (wb.alloc (.cells #[.int .i64 2, .int .i64 nx, .int .i64 ny, .int .i64 iarg, .slice A9 inn c9] 54)) := (Below.refl _ _).alloc (Nat.le_refl _) _
                have HJN := Lib.hid (HJW.out.later hal)
                have HRO := Lib.hid (own_below HRN.out hal)
                have hbs := HJN.out.below.size
                clear hbW hXW hal
                go_wp2_with (at_builtin; go_loud (refine wpList_append_lies _ rfl (.tmp 113) (.tmp 115) 28 rfl w.heap.size 54 i0 (.agg #[.int .i64 0, .int .i64 0, .int .i64 0, .int .i64 0, .slice none 0 0]) 5 56 Try.underlying28 hi0 hz00 hz01 hz02 rfl (by decide) (.slice VB LK.length Vcb) LK.length (insRow LK) rfl HJN.out.own ⟨wb.heap.size, 0, none⟩ 1 1 [.int .i64 2, .int .i64 nx, .int .i64 ny, .int .i64 iarg, .slice A9 inn c9] rfl rfl hna (by simp [Value.oneCell']) (by decide) (by unfold maxLen; omega) (by omega) hbs _ rfl ?_; intro g3 cap3 wc hou3 hg3 hat3 hlt3; have HJC := Lib.hid (HJN.out.push hg3 (u := ⟨⟨2, nx, ny, iarg, irng⟩, A9, inn, c9⟩) HRO.out (V' := .slice (some ⟨g3, 0, none⟩) (LK.length + 1) cap3) (by rw [insRow_app, insRow_one]; exact hou3)); have hbo := blk_far HJN.out.blk HJN.out.own (by decide) hg3; have t0 := hbo.cell 0; have tf := hbo.frozen 0; have tl := hbo.lt; simp only [List.getElem?_cons_succ, List.getElem?_cons_zero] at t0; clear hou3 hg3 hat3 hlt3 hbo))
                refine ⟨⟨j + 1, _, LK ++ [⟨⟨2, nx, ny, iarg, irng⟩, A9, inn, c9⟩], by omega, by go_num, HJC.out, ?_⟩, by simp [intOf]; omega⟩
                rw [ins_snocJ, HJI.out, ← HMV.out, HTJ.out, List.map_append, List.append_assoc]; rfl
              have g2 : (op == 2) = false := by simpa using h2
              by_cases h6 : op = 6
              · subst h6
                go_upto_region 33 with fail
                have hbW : Below wj.heap.size wj wa := HB9.out
                have hXW : Blk wa wj.heap.size 54 [.int .i64 6, .int .i64 ix, .int .i64 iy, .int .i64 iarg, .slice A9 inn c9] := HXB.out
                have HRN := Lib.hid (show wa.ownsRow w.heap.size 52 2 (.slice A9 inn c9) inn (flat irng) from HRW.out)
                have HMV := Lib.hid (show mvI o (k : Int) ⟨6, ix, iy, iarg, irng⟩ = ⟨6, ix, iy, iarg, irng⟩ from by simp [mvI])
                have HJW := Lib.hid (HJJ.out.later hbW)
                clear x0 x1 x2 x3 f0 f1 f2 f3 xl HXB HRW HB9
                have y0 := hXW.cell 0
                have y1 := hXW.cell 1
                have y2 := hXW.cell 2
                have y3 := hXW.cell 3
                have y4 := hXW.cell 4
                have e0 := HJW.out.blk.cell 0
                simp only [List.getElem?_cons_succ, List.getElem?_cons_zero] at y0 y1 y2 y3 y4 e0
                have hna := new_at9 wa 54 [.int .i64 6, .int .i64 ix, .int .i64 iy, .int .i64 iarg, .slice A9 inn c9]
                have hal : Below wa.heap.size wa (wa.alloc (.cells #[.int .i64 6, .int .i64 ix, .int .i64 iy, .int .i64 iarg, .slice A9 inn c9] 54)) := (Below.refl _ _).alloc (Nat.le_refl _) _
                have HJN := Lib.hid (HJW.out.later hal)
                have HRO := Lib.hid (own_below HRN.out hal)
                have hbs := HJN.out.below.size
                clear hbW hXW hal
                go_wp2_with (at_builtin; go_loud (refine wpList_append_lies _ rfl (.tmp 113) (.tmp 115) 28 rfl w.heap.size 54 i0 (.agg #[.int .i64 0, .int .i64 0, .int .i64 0, .int .i64 0, .slice none 0 0]) 5 56 Try.underlying28 hi0 hz00 hz01 hz02 rfl (by decide) (.slice VB LK.length Vcb) LK.length (insRow LK) rfl HJN.out.own ⟨wa.heap.size, 0, none⟩ 1 1 [.int .i64 6, .int .i64 ix, .int .i64 iy, .int .i64 iarg, .slice A9 inn c9] rfl rfl hna (by simp [Value.oneCell']) (by decide) (by unfold maxLen; omega) (by omega) hbs _ rfl ?_; intro g3 cap3 wc hou3 hg3 hat3 hlt3; have HJC := Lib.hid (HJN.out.push hg3 (u := ⟨⟨6, ix, iy, iarg, irng⟩, A9, inn, c9⟩) HRO.out (V' := .slice (some ⟨g3, 0, none⟩) (LK.length + 1) cap3) (by rw [insRow_app, insRow_one]; exact hou3)); have hbo := blk_far HJN.out.blk HJN.out.own (by decide) hg3; have t0 := hbo.cell 0; have tf := hbo.frozen 0; have tl := hbo.lt; simp only [List.getElem?_cons_succ, List.getElem?_cons_zero] at t0; clear hou3 hg3 hat3 hlt3 hbo))
                refine ⟨⟨j + 1, _, LK ++ [⟨⟨6, ix, iy, iarg, irng⟩, A9, inn, c9⟩], by omega, by go_num, HJC.out, ?_⟩, by simp [intOf]; omega⟩
                rw [ins_snocJ, HJI.out, ← HMV.out, HTJ.out, List.map_append, List.append_assoc]; rfl
              have g6 : (op == 6) = false := by simpa using h6
              obtain ⟨nx, hnx⟩ : ∃ nx : Int, ix + (o : Int) = nx := ⟨_, rfl⟩
              have hbx := (may_else HMAY.out h5 h6)
              simp only [] at hbx
              have wx : IntKind.i64.wrap (ix + (o : Int)) = nx := by rw [IntKind.wrap_i64]; omega
              have HNX := Lib.hid hnx
              go_upto_region 33 with fail
              have hbW : Below wj.heap.size wj (wa.setCell ⟨wj.heap.size, 1, none⟩ (.int .i64 nx)) := Below.kept HB9.out (Kept.setCell _ _) (by simp) HB9.out.size
              have hXW : Blk (wa.setCell ⟨wj.heap.size, 1, none⟩ (.int .i64 nx)) wj.heap.size 54 [.int .i64 op, .int .i64 nx, .int .i64 iy, .int .i64 iarg, .slice A9 inn c9] := HXB.out.set_ 1 _
              have HRN := Lib.hid (show (wa.setCell ⟨wj.heap.size, 1, none⟩ (.int .i64 nx)).ownsRow w.heap.size 52 2 (.slice A9 inn c9) inn (flat irng) from own_set HRW.out HXB.out (by decide))
              have HMV := Lib.hid (show mvI o (k : Int) ⟨op, ix, iy, iarg, irng⟩ = ⟨op, nx, iy, iarg, irng⟩ from by simp [mvI, h5, h2, h6, HNX.out])
              have HJW := Lib.hid (HJJ.out.later hbW)
              clear x0 x1 x2 x3 f0 f1 f2 f3 xl HXB HRW HB9
              generalize (wa.setCell ⟨wj.heap.size, 1, none⟩ (.int .i64 nx)) = wb at *
              have y0 := hXW.cell 0
              have y1 := hXW.cell 1
              have y2 := hXW.cell 2
              have y3 := hXW.cell 3
              have y4 := hXW.cell 4
              have e0 := HJW.out.blk.cell 0
              simp only [List.getElem?_cons_succ, List.getElem?_cons_zero] at y0 y1 y2 y3 y4 e0
              have hna := new_at9 wb 54 [.int .i64 op, .int .i64 nx, .int .i64 iy, .int .i64 iarg, .slice A9 inn c9]
              have hal : Below wb.heap.size wb (wb.alloc (.cells #[.int .i64 op, .int .i64 nx, .int .i64 iy, .int .i64 iarg, .slice A9 inn c9] 54)) := (Below.refl _ _).alloc (Nat.le_refl _) _
              have HJN := Lib.hid (HJW.out.later hal)
              have HRO := Lib.hid (own_below HRN.out hal)
              have hbs := HJN.out.below.size
              clear hbW hXW hal
              go_wp2_with (at_builtin; go_loud (refine wpList_append_lies _ rfl (.tmp 113) (.tmp 115) 28 rfl w.heap.size 54 i0 (.agg #[.int .i64 0, .int .i64 0, .int .i64 0, .int .i64 0, .slice none 0 0]) 5 56 Try.underlying28 hi0 hz00 hz01 hz02 rfl (by decide) (.slice VB LK.length Vcb) LK.length (insRow LK) rfl HJN.out.own ⟨wb.heap.size, 0, none⟩ 1 1 [.int .i64 op, .int .i64 nx, .int .i64 iy, .int .i64 iarg, .slice A9 inn c9] rfl rfl hna (by simp [Value.oneCell']) (by decide) (by unfold maxLen; omega) (by omega) hbs _ rfl ?_; intro g3 cap3 wc hou3 hg3 hat3 hlt3; have HJC := Lib.hid (HJN.out.push hg3 (u := ⟨⟨op, nx, iy, iarg, irng⟩, A9, inn, c9⟩) HRO.out (V' := .slice (some ⟨g3, 0, none⟩) (LK.length + 1) cap3) (by rw [insRow_app, insRow_one]; exact hou3)); have hbo := blk_far HJN.out.blk HJN.out.own (by decide) hg3; have t0 := hbo.cell 0; have tf := hbo.frozen 0; have tl := hbo.lt; simp only [List.getElem?_cons_succ, List.getElem?_cons_zero] at t0; clear hou3 hg3 hat3 hlt3 hbo))
              refine ⟨⟨j + 1, _, LK ++ [⟨⟨op, nx, iy, iarg, irng⟩, A9, inn, c9⟩], by omega, by go_num, HJC.out, ?_⟩, by simp [intOf]; omega⟩
              rw [ins_snocJ, HJI.out, ← HMV.out, HTJ.out, List.map_append, List.append_assoc]; rfl
            · obtain rfl : j = vn := by omega
              have hlt6 : ¬ ((j : Int) < (j : Int)) := by omega
              go_wp2_with fail
              refine ⟨⟨k + 1, .slice VB LK.length Vcb, LK, by omega, by go_num, ?_, ?_⟩, by simp [intOf]; omega⟩
              · have e1 : capsJ (prgs (pl.take (k + 1))) 0 = mxc := by rw [HTK.out, capsJ_snoc, HCQ.out, HMXC.out]
                have e2 : startsJ (prgs (pl.take (k + 1))) m = ss ++ [so] := by rw [HTK.out, startsJ_snoc, HSS.out, HSO.out, HO.out]
                rw [e1, e2]; exact HJJ.out
              · have e3 : (insL vL).take j = insL vL := List.take_of_length_le (by rw [HVL.out]; exact Nat.le_refl _)
                have e4 : 0 + (prgs (pl.take k)).length = k := by rw [Nat.zero_add, prgs, List.length_map, List.length_take, HPL.out]; omega
                rw [HJI.out, e3, HTK.out, movsJ_snoc, HINS.out, e4, ← HO.out, List.append_assoc]
        · obtain rfl : k = i := by omega
          have hlt4 : ¬ ((k : Int) < (k : Int)) := by omega
          have htk : pl.take k = pl := List.take_of_length_le (by rw [HPL.out]; exact Nat.le_refl _)
          have HFIN := Lib.hid (show pl ≠ [] ∧ (∀ p ∈ prgs pl, checkB p = true) ∧ pl.length ≤ 100 ∧ pl.length - 1 + sumJ (prgs pl) ≤ 20000 from by
            have h1 := HPL.out
            have h2 := HM.out
            have h3 := HMT.out
            have h4 := HSM.out
            have h5 := HCK.out
            (try rw [htk] at h4)
            (try rw [htk] at h5)
            exact ⟨fun e => by rw [e] at h1; simp only [List.length_nil] at h1; omega, h5, by omega, by omega⟩)
          have HJP := Lib.hid (show JSt w ob 0 V _ LJ (capsJ (prgs pl) 0) (startsJ (prgs pl) m) wk from by have := HJ.out; rwa [htk] at this)
          have HINP := Lib.hid (show insL LJ = List.replicate m ⟨0, 0, 0, 0, []⟩ ++ movsJ (prgs pl) m 0 from by have := HINS.out; rwa [htk] at this)
          have hpl2 : (prgs pl).length = k := by rw [prgs, List.length_map]; exact HPL.out
          have hsl : (startsJ (prgs pl) m).length = k := by rw [startsJ_len]; exact hpl2
          have HJQ := Lib.hid (join_eqJ (l := prgs pl) (m := m) (by rw [hpl2]; exact HM.out.1))
          clear htk HJ HINS hpl2
          generalize hss : startsJ (prgs pl) m = ss at *
          generalize hcq : capsJ (prgs pl) 0 = cq at *
          clear hss hcq
          obtain ⟨VA, Vc, rfl⟩ := own_shape HJP.out.own
          obtain ⟨SA, Sc, rfl⟩ := own_shape HJP.out.st
          have hk1 := HM.out.1
          obtain ⟨gs, rfl⟩ := own_someJ HJP.out.st (by omega)
          obtain ⟨s0, hs0⟩ : ∃ s0, ss[0]? = some s0 := ⟨_, List.getElem?_eq_getElem (by omega)⟩
          have c0 := own_cellJ HJP.out.st (j := 0) (u := .int .i64 (s0 : Int)) (by rw [List.getElem?_map, hs0]; rfl)
          have b1 := HJP.out.blk.cell 1
          have b1f := HJP.out.blk.frozen 1
          have bl := HJP.out.blk.lt
          simp only [List.getElem?_cons_succ, List.getElem?_cons_zero] at b1
          have HJS := Lib.hid (HJP.out.start s0)
          have hss1 : 0 < ss.length := by omega
          have HSL := Lib.hid hsl
          clear hsl
          have HS0 := Lib.hid hs0
          clear hs0 HJP
          go_wp2_with fail
          clear c0 b1 b1f bl
          generalize wk.setCell ⟨ob, 1, none⟩ (.int .i64 (s0 : Int)) = wl at *
          go_loopw [127] (fun qv wq => ∃ (q : Nat) (L4 : List InV), q ≤ m ∧ qv = .int .i64 (q : Int) ∧ JSt w ob (if q = 0 then (s0 : Int) else 0) (.slice VA L4.length Vc) (.slice (some ⟨gs, 0, none⟩) ss.length Sc) L4 cq ss wq ∧ insL L4 = (altsJ ss 0).take q ++ (insL LJ).drop q) (fun qv _ => m - (intOf qv).toNat)
          case atStart => exact ⟨0, LJ, Nat.zero_le _, rfl, HJS.out, by simp⟩
          case round =>
            obtain ⟨q, L4, hqm, rfl, hj4, hi4⟩ := hrel
            obtain ⟨wq, hwq⟩ : ∃ wq, wq = wr := ⟨_, rfl⟩
            subst hwq
            obtain ⟨zq, hzq⟩ : ∃ zq : Int, zq = if q = 0 then (s0 : Int) else 0 := ⟨_, rfl⟩
            rw [← hzq] at hj4
            have HZQ := Lib.hid hzq
            have hl4 : L4.length = LJ.length := by
              have h1 := congrArg List.length hi4
              have h2 := congrArg List.length HINP.out
              rw [insL, insL, List.length_map, List.length_append, List.length_take, List.length_drop, List.length_map, altsJ_len, HSL.out] at h1
              rw [insL, List.length_map, List.length_append, List.length_replicate] at h2
              omega
            have hLJm : m ≤ LJ.length := by
              have h2 := congrArg List.length HINP.out
              rw [insL, List.length_map, List.length_append, List.length_replicate] at h2
              omega
            have HJ4 := Lib.hid hj4
            have HI4 := Lib.hid hi4
            clear hzq hj4 hi4
            by_cases hlt5 : q < m
            · have hlt6 : (q : Int) < (m : Int) := by omega
              obtain ⟨gv, rfl⟩ := own_someJ HJ4.out.own (by omega)
              obtain ⟨cs, hcs⟩ := own_blkJ HJ4.out.own
              have hq4 : q < L4.length := by omega
              have hne : gv ≠ ob := hcs.ne_ HJ4.out.blk (by decide)
              have hne2 : ob ≠ gv := Ne.symm hne
              have hms : m < ss.length := by have := HSL.out; omega
              have hqs : q < ss.length := by omega
              obtain ⟨a, ha⟩ : ∃ a, L4[q]? = some a := ⟨_, List.getElem?_eq_getElem hq4⟩
              obtain ⟨sq, hsq⟩ : ∃ sq, ss[q]? = some sq := ⟨_, List.getElem?_eq_getElem (by have := HSL.out; omega)⟩
              have d : ∀ r u, r < 5 → (insVals a.I a.A a.n a.c)[r]? = some u → wq.cell? ⟨gv, q * 5 + r, none⟩ = some u := fun r u hr hu => own_cellJ HJ4.out.own ((insRow_get _ _ _ _ ha hr).trans hu)
              have d0 := d 0 _ (by omega) rfl
              have d1 := d 1 _ (by omega) rfl
              have d2 := d 2 _ (by omega) rfl
              have d3 := d 3 _ (by omega) rfl
              have d4 := d 4 _ (by omega) rfl
              rw [Nat.add_zero] at d0
              have f0 := hcs.frozen (q * 5)
              have f1 := hcs.frozen (q * 5 + 1)
              have f2 := hcs.frozen (q * 5 + 2)
              have f3 := hcs.frozen (q * 5 + 3)
              have f4 := hcs.frozen (q * 5 + 4)
              have fl := hcs.lt
              have b0 := HJ4.out.blk.cell 0
              have b1 := HJ4.out.blk.cell 1
              have b1f := HJ4.out.blk.frozen 1
              have bl := HJ4.out.blk.lt
              simp only [List.getElem?_cons_succ, List.getElem?_cons_zero] at b0 b1
              have c1 := own_cellJ HJ4.out.st (j := q) (u := .int .i64 (sq : Int)) (by rw [List.getElem?_map, hsq]; rfl)
              obtain ⟨mm, hmm2⟩ : ∃ mm : Int, (m : Int) + 1 - 2 = mm := ⟨_, rfl⟩
              have hmm3 : IntKind.i64.wrap ((m : Int) + 1 - 2) = mm := by rw [IntKind.wrap_i64]; omega
              have HA := Lib.hid ha
              have HSQ := Lib.hid hsq
              clear d ha hsq hcs
              by_cases hq1 : q + 1 = m
              · have g1 : ((q : Int) == mm) = true := by rw [beq_iff_eq]; omega
                obtain ⟨sm2, hsm2b⟩ : ∃ sm2, ss[m]? = some sm2 := ⟨_, List.getElem?_eq_getElem (by have := HSL.out; omega)⟩
                have c2 := own_cellJ HJ4.out.st (j := m) (u := .int .i64 (sm2 : Int)) (by rw [List.getElem?_map, hsm2b]; rfl)
                have HSM2 := Lib.hid hsm2b
                clear hsm2b
                go_upto_region 43 with fail
                go_region
                go_wp2_with fail
                refine ⟨⟨q + 1, L4.set q ⟨⟨2, (sq : Int), (sm2 : Int), 0, []⟩, none, 0, 0⟩, by omega, by go_num, ?_, ?_⟩, by simp [intOf]; omega⟩
                · rw [if_neg (by omega)]
                  exact ((HJ4.out.alt HA.out (sq : Int) (sm2 : Int)).start 0).drewN 1
                · have hg := altsJ_get ss 0 q sq HSQ.out (by omega)
                  rw [if_pos (by have := HSL.out; omega), show ss.getD (q + 1) 0 = sm2 from by rw [hq1, List.getD, HSM2.out]; rfl] at hg
                  have hm : insL (L4.set q ⟨⟨2, (sq : Int), (sm2 : Int), 0, []⟩, none, 0, 0⟩) = (insL L4).set q ⟨2, (sq : Int), (sm2 : Int), 0, []⟩ := by unfold insL; rw [List.map_set]
                  rw [hm, HI4.out]
                  exact set_midJ hg (by rw [insL, List.length_map]; omega)
              · have g1 : ((q : Int) == mm) = false := by rw [beq_eq_false_iff_ne]; omega
                go_upto_region 43 with fail
                go_region
                go_wp2_with fail
                refine ⟨⟨q + 1, L4.set q ⟨⟨2, (sq : Int), ((q : Int) + 1), 0, []⟩, none, 0, 0⟩, by omega, by go_num, ?_, ?_⟩, by simp [intOf]; omega⟩
                · rw [if_neg (by omega)]
                  exact ((HJ4.out.alt HA.out (sq : Int) ((q : Int) + 1)).start 0).drewN 1
                · have hg := altsJ_get ss 0 q sq HSQ.out (by omega)
                  rw [if_neg (by have := HSL.out; omega), show ((0 + q + 1 : Nat) : Int) = (q : Int) + 1 from by omega] at hg
                  have hm : insL (L4.set q ⟨⟨2, (sq : Int), ((q : Int) + 1), 0, []⟩, none, 0, 0⟩) = (insL L4).set q ⟨2, (sq : Int), ((q : Int) + 1), 0, []⟩ := by unfold insL; rw [List.map_set]
                  rw [hm, HI4.out]
                  exact set_midJ hg (by rw [insL, List.length_map]; omega)
            · obtain rfl : q = m := by omega
              have hlt6 : ¬ ((q : Int) < (q : Int)) := by omega
              have b0 := HJ4.out.blk.cell 0
              have b1 := HJ4.out.blk.cell 1
              have b2 := HJ4.out.blk.cell 2
              have y0 := HJ4.out.res.cell 0
              have y1 := HJ4.out.res.cell 1
              have y2 := HJ4.out.res.cell 2
              have z0 := HJ4.out.res.frozen 0
              have z1 := HJ4.out.res.frozen 1
              have z2 := HJ4.out.res.frozen 2
              have z3 := HJ4.out.res.lt
              simp only [List.getElem?_cons_succ, List.getElem?_cons_zero] at b0 b1 b2 y0 y1 y2
              go_wp2_with fail
              refine bodyPost_ret (prog2_ret rfl _ _ w.heap.size (.slice VA LJ.length Vc) (.int .i64 zq) (.int .i64 cq) rfl (((HJ4.out.res.set_ 0 (.slice VA LJ.length Vc)).set_ 1 (.int .i64 zq)).set_ 2 (.int .i64 cq))) rfl ?_
              obtain ⟨hB, hR⟩ := HJ4.out.out_ (.slice VA LJ.length Vc) (.int .i64 zq) (.int .i64 cq)
              rw [hl4] at hR
              have hj := HJQ.out
              have hz : zq = (joinP (prgs pl)).start := by
                rw [hj, HZQ.out]
                simp only []
                by_cases hq0 : q = 0
                · rw [if_pos hq0, if_pos hq0]
                  have := HS0.out
                  cases ss with
                  | nil => simp at this
                  | cons a l => simp at this; rw [this]; rfl
                · rw [if_neg hq0, if_neg hq0]
              have hc : cq = (joinP (prgs pl)).caps := by rw [hj]
              refine ⟨hB, .inr ⟨VA, LJ.length, Vc, L4, by rw [← hz, ← hc]; rfl, hR, ?_, HFIN.out⟩⟩
              rw [hj, HI4.out, HINP.out, List.take_of_length_le (by rw [altsJ_len, HSL.out]; omega), List.drop_append_of_le_length (by rw [List.length_replicate]; exact Nat.le_refl _), List.drop_eq_nil_of_le (by rw [List.length_replicate]; exact Nat.le_refl _), List.nil_append]
end Go.Proofs.Ytfgelkfnbohmmaa
