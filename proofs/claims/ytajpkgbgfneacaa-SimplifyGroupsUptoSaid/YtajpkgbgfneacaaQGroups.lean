/- The law's groups. -/
import Derived.Test.YtajpkgbgfneacaaQGreat
import Derived.Test.YtajpkgbgfneacaaQReck
import Derived.Test.YtajpkgbgfneacaaQSimpG
import Derived.Test.YtajpkgbgfneacaaQRowPut
import Derived.Deep.AppendLies
import Derived.Deep.CutRange
import Derived.Deep.QuietTactic
namespace Go.Proofs.Ytajpkgbgfneacaa
open Go.RowKit Go.Proofs.Ytajpkgbgfneacaa.Tr

def ixs (acc : List Lab) : List Value := acc.map fun x => .int .i64 x.1
def nms (acc : List Lab) : List Value := acc.map fun x => .string x.2
theorem str_eq (a b : ByteArray) : (a.toList == b.toList) = decide (a = b) := by
  rw [ByteArray.toList_eq, ByteArray.toList_eq, Bool.eq_iff_iff, beq_iff_eq, decide_eq_true_eq]
  exact ⟨fun h => by cases a; cases b; simp only [ByteArray.mk.injEq]; exact Array.toList_inj.1 h, fun h => by rw [h]⟩
/-- The two rows that the groups are kept in. -/
structure GV (base : Nat) (a b : Value) (acc : List Lab) (w : World) : Prop where
  ia : w.ownsRow base 3 1 a acc.length (ixs acc)
  ib : w.ownsRow base 9 1 b acc.length (nms acc)
theorem GV.below {base : Nat} {a b : Value} {acc : List Lab} {w w' : World} (h : GV base a b acc w) (hb : Below w.heap.size w w') : GV base a b acc w' := ⟨own_below h.ia hb, own_below h.ib hb⟩
theorem groupss_app (a b : List Tr.Tr) : ∀ acc, groupssS (a ++ b) acc = groupssS b (groupssS a acc) := by
  induction a with
  | nil => intro acc; rw [List.nil_append, groupssS]
  | cons t a ih => intro acc; rw [List.cons_append, groupssS, groupssS, ih]
theorem addG_len (acc : List Lab) (x : Lab) : (addG acc x).length ≤ acc.length + 1 := by
  unfold addG
  split
  · omega
  · simp
theorem groups_len : ∀ (t : Tr.Tr) (acc : List Lab), (groupsS t acc).length ≤ acc.length + size t := by
  intro t
  induction t using Tr.Tr.ind with
  | h t ih =>
    intro acc
    cases t with
    | mk k r a l n m z i s =>
      have hss : ∀ acc, (groupssS l acc).length ≤ acc.length + sizes l := by
        simp only [Tr.subs] at ih
        clear k r a n m z i s
        induction l with
        | nil => intro acc; rw [groupssS]; omega
        | cons t l hl =>
          intro acc
          have h1 := ih t List.mem_cons_self acc
          have h2 := hl (fun s hs => ih s (List.mem_cons_of_mem _ hs)) (groupsS t acc)
          rw [groupssS, sizes]
          omega
      rw [groupsS, size]
      by_cases h0 : k = 6 ∧ m = 0
      · rw [if_pos h0]; omega
      · rw [if_neg h0]
        have h1 := hss (if k = 7 then addG acc (i, s) else acc)
        by_cases h7 : k = 7
        · rw [if_pos h7] at h1 ⊢
          have := addG_len acc (i, s)
          omega
        · rw [if_neg h7] at h1 ⊢; omega
theorem groupss_len : ∀ (l : List Tr.Tr) (acc : List Lab), (groupssS l acc).length ≤ acc.length + sizes l
  | [], acc => by rw [groupssS]; omega
  | t :: l, acc => by
    have h1 := groups_len t acc
    have h2 := groupss_len l (groupsS t acc)
    rw [groupssS, sizes]
    omega
def OW (w : World) (a a' : Value) : Prop := a'.ownBlock = a.ownBlock ∨ ∃ g, a'.ownBlock = some g ∧ w.heap.size ≤ g
/-- What has been kept: from the rows a, b in w0 the rows a', b' in w'. -/
structure GQ (base : Nat) (w0 : World) (a b : Value) (acc : List Lab) (a' b' : Value) (w' : World) : Prop where
  gv : GV base a' b' acc w'
  kept : Kept w0 w' (a.ownBlock.toList ++ b.ownBlock.toList)
  oa : OW w0 a a'
  ob : OW w0 b b'
theorem OW.trans {w w' : World} {a b c : Value} (h : OW w a b) (g : OW w' b c) (hs : w.heap.size ≤ w'.heap.size) : OW w a c := by
  rcases g with e | ⟨x, e, hx⟩
  · rcases h with f | ⟨y, f, hy⟩
    · exact .inl (e.trans f)
    · exact .inr ⟨y, e.trans f, hy⟩
  · exact .inr ⟨x, e, Nat.le_trans hs hx⟩
theorem OW.mem {w : World} {a b : Value} (h : OW w a b) {L : List Nat} {x : Nat} (hx : x ∈ b.ownBlock.toList) : x ∈ a.ownBlock.toList ∨ w.heap.size ≤ x := by
  rcases h with e | ⟨g, e, hg⟩
  · rw [e] at hx; exact .inl hx
  · rw [e] at hx; simp at hx; subst hx; exact .inr hg
theorem GQ.trans {base : Nat} {w0 w1 w2 : World} {a b a1 b1 a2 b2 : Value} {acc acc2 : List Lab} (h : GQ base w0 a b acc a1 b1 w1) (g : GQ base w1 a1 b1 acc2 a2 b2 w2) : GQ base w0 a b acc2 a2 b2 w2 :=
  ⟨g.gv, (h.kept.trans g.kept).more (by
    intro x hx
    rcases List.mem_append.1 hx with hx | hx
    · exact .inl hx
    · rcases List.mem_append.1 hx with hx | hx
      · rcases h.oa.mem (L := []) hx with e | e
        · exact .inl (List.mem_append_left _ e)
        · exact .inr e
      · rcases h.ob.mem (L := []) hx with e | e
        · exact .inl (List.mem_append_right _ e)
        · exact .inr e), h.oa.trans g.oa h.kept.size, h.ob.trans g.ob h.kept.size⟩
theorem GQ.below {base : Nat} {w0 w1 w2 : World} {a b a1 b1 : Value} {acc : List Lab} (h : GQ base w0 a b acc a1 b1 w1) (hb : Below w1.heap.size w1 w2) : GQ base w0 a b acc a1 b1 w2 :=
  ⟨h.gv.below hb, (h.kept.trans (Kept.of_below (L := []) hb)).more (by intro x hx; simp only [List.append_nil] at hx; exact .inl hx), h.oa, h.ob⟩
theorem GQ.refl {base : Nat} {w : World} {a b : Value} {acc : List Lab} (h : GV base a b acc w) : GQ base w a b acc a b w := ⟨h, Kept.refl, .inl rfl, .inl rfl⟩
/-- groups answers so of a tree. -/
def GR (t : Ta) : Prop := ∀ (S : Nat → Prop) (w : World) (base : Nat) (a b : Value) (acc : List Lab), RT w S t → (∀ x, S x → x < base) → base ≤ w.heap.size → GV base a b acc w → acc.length + size t.tr ≤ 1000000000 →
    Calls Try.prog 14 #[t.val, a, b] w fun e w' => ∃ a' b', e = .returned (.tuple #[a', b']) ∧ GQ base w a b (groupsS t.tr acc) a' b' w'
theorem info_int : (Try.prog.info? 3).map (fun i => (i.zero, i.size, i.bytes)) = some (some (.int .i64 0), 1, 8) := by kernel_rfl
theorem info_str : (Try.prog.info? 9).map (fun i => (i.zero, i.size, i.bytes)) = some (some (.string ⟨#[]⟩), 1, 16) := by kernel_rfl
set_option maxRecDepth 100000 in
set_option maxHeartbeats 2000000 in
theorem groups_rest (k : Int) (r : List (Int × Int)) (ra : Option Addr) (rc : Nat) (ast : Int) (l : List Ta) (sa : Option Addr) (sc : Nat) (mn mx : Int) (z : Bool) (ix : Int) (nm : ByteArray) (ih : ∀ u ∈ l, GR u) (S : Nat → Prop) (w : World) (h : RT w S (.mk k r ra rc ast l sa sc mn mx z ix nm)) (base : Nat) (hS : ∀ x, S x → x < base) (hB : base ≤ w.heap.size) (a b : Value) (acc acc1 : List Lab) (hg : GV base a b acc w) (hl : acc.length + size (Ta.mk k r ra rc ast l sa sc mn mx z ix nm).tr ≤ 1000000000) (h6 : ((k == 6) && (mx == 0)) = false) (ha : acc1 = if k = 7 then addG acc (ix, nm) else acc) :
    Calls Try.prog 14 #[(Ta.mk k r ra rc ast l sa sc mn mx z ix nm).val, a, b] w fun e w' => ∃ a' b', e = .returned (.tuple #[a', b']) ∧ GQ base w a b (groupssS (trs l) acc1) a' b' w' := by
  obtain ⟨⟨hR, hrl, hll, hnm⟩, hN, hL⟩ := h.parts
  have hsc := hN.1
  have hsc2 := hN.2.1
  obtain ⟨i1, hi1, hz10, hz11, hz12⟩ := info_parts info_int
  obtain ⟨i2, hi2, hz20, hz21, hz22⟩ := info_parts info_str
  have hgo : ∀ x ∈ a.ownBlock.toList ++ b.ownBlock.toList, base ≤ x ∧ x < w.heap.size := fun x hx => by
    rcases List.mem_append.1 hx with hx | hx
    · exact hg.ia.lt x (by simpa using hx)
    · exact hg.ib.lt x (by simpa using hx)
  have hsz1 := Ta.tr_size k r ra rc ast l sa sc mn mx z ix nm
  obtain ⟨A1, c1, rfl⟩ := own_shape hg.ia
  obtain ⟨A2, c2, rfl⟩ := own_shape hg.ib
  have hb0 : Below w.heap.size w (w.alloc (.cells #[.int .i64 k, .slice ra r.length rc, .int .i64 ast, .slice sa l.length sc, .int .i64 mn, .int .i64 mx, .bool z, .int .i64 ix, .string nm] 25)) := (Below.refl _ _).alloc (Nat.le_refl _) _
  have hg1 := hg.below hb0
  have HX := Lib.hid (Blk.new w 25 [.int .i64 k, .slice ra r.length rc, .int .i64 ast, .slice sa l.length sc, .int .i64 mn, .int .i64 mx, .bool z, .int .i64 ix, .string nm])
  have HT := Lib.hid (fun u hu => (hL u hu).below (fun b hb => Nat.lt_of_lt_of_le (hS b hb) hB) hb0)
  have HN := Lib.hid (hN.go (w' := (w.alloc (.cells #[.int .i64 k, .slice ra r.length rc, .int .i64 ast, .slice sa l.length sc, .int .i64 mn, .int .i64 mx, .bool z, .int .i64 ix, .string nm] 25))) fun b hb => hb0.block b (Nat.lt_of_lt_of_le (hS b hb) hB))
  have HB0 := Lib.hid hb0
  have HG := Lib.hid hg1
  have HS := Lib.hid hS
  have HA := Lib.hid ha
  have hbs1 : base ≤ (w.alloc (.cells #[.int .i64 k, .slice ra r.length rc, .int .i64 ast, .slice sa l.length sc, .int .i64 mn, .int .i64 mx, .bool z, .int .i64 ix, .string nm] 25)).heap.size := Nat.le_trans hB hb0.size
  have hll2 : acc.length ≤ 1000000000 := by omega
  have hl1 : acc1.length ≤ acc.length + 1 := by rw [ha]; have := addG_len acc (ix, nm); split <;> omega
  have HGO := Lib.hid hgo
  have HIH := Lib.hid ih
  obtain ⟨b6, hb6⟩ : ∃ q, (k == 6) = q := ⟨_, rfl⟩
  obtain ⟨bm, hbm⟩ : ∃ q, (mx == 0) = q := ⟨_, rfl⟩
  rw [hb6, hbm] at h6
  clear hg hg1 h hS hR hN hL hb0 ha hgo ih
  simp only [Ta.val, Ta.vals]
  have main : ∀ (q : Bool), (k == 7) = q → Calls Try.prog 14 #[.agg #[.int .i64 k, .slice ra r.length rc, .int .i64 ast, .slice sa l.length sc, .int .i64 mn, .int .i64 mx, .bool z, .int .i64 ix, .string nm], .slice A1 acc.length c1, .slice A2 acc.length c2] w fun e w' => ∃ a' b', e = .returned (.tuple #[a', b']) ∧ GQ base w (.slice A1 acc.length c1) (.slice A2 acc.length c2) (groupssS (trs l) acc1) a' b' w' := by
    intro q h7
    cases b6 <;> cases bm
    case true.true => cases h6
    all_goals
      go_enter Try.func14, Try.ntmps14
      go_upto_if 23 with (fail)
      generalize (w.alloc (.cells #[.int .i64 k, .slice ra r.length rc, .int .i64 ast, .slice sa l.length sc, .int .i64 mn, .int .i64 mx, .bool z, .int .i64 ix, .string nm] 25)) = w1 at *
      go_cut [1, 2] from 24 (fun s1 s2 w' => GQ base w1 (.slice A1 acc.length c1) (.slice A2 acc.length c2) acc1 s1 s2 w')
      case first =>
        cases q with
        | false =>
          have hk7 : ¬ k = 7 := by simpa using h7
          have ha := HA.out
          rw [if_neg hk7] at ha
          subst ha
          clear hk7
          go_wp2_with fail
          go_meet
          exact GQ.refl HG.out
        | true =>
          have hk7 : k = 7 := by simpa using h7
          have HA2 := Lib.hid (HA.out.trans (if_pos hk7))
          clear hk7
          have t7 : w1.cell? ⟨w.heap.size, 7, none⟩ = some (.int .i64 ix) := HX.out.cell 7
          have t8 : w1.cell? ⟨w.heap.size, 8, none⟩ = some (.string nm) := HX.out.cell 8
          go_wp2_with fail
          go_loopw [8, 9] (fun bv iv wr => ∃ (i m : Nat), i ≤ acc.length ∧ iv = .int .i64 (i : Int) ∧ bv = .bool (hasG (acc.take i) (ix, nm)) ∧ wr = w1.drewN m) (fun _ iv _ => acc.length - (intOf iv).toNat)
          case atStart => exact ⟨0, 0, Nat.zero_le _, rfl, rfl, rfl⟩
          case round =>
            obtain ⟨i, m, hi, rfl, rfl, rfl⟩ := hrel
            by_cases hlt : i < acc.length
            · have hlt2 : (i : Int) < (acc.length : Int) := by omega
              obtain ⟨g1, rfl, -, hge1, hgl1⟩ := own_form HG.out.ia (by omega)
              obtain ⟨g2, rfl, -, hge2, hgl2⟩ := own_form HG.out.ib (by omega)
              obtain ⟨x, hx⟩ : ∃ x, acc[i]? = some x := ⟨_, List.getElem?_eq_getElem hlt⟩
              have d1 : w1.cell? ⟨g1, i, none⟩ = some (.int .i64 x.1) := own_cell HG.out.ia (by unfold ixs; rw [List.getElem?_map, hx]; rfl)
              have d2 : w1.cell? ⟨g2, i, none⟩ = some (.string x.2) := own_cell HG.out.ib (by unfold nms; rw [List.getElem?_map, hx]; rfl)
              obtain ⟨th, hth⟩ : ∃ q, q = hasG (acc.take i) (ix, nm) := ⟨_, rfl⟩
              rw [← hth]
              have hnx : hasG (acc.take (i + 1)) (ix, nm) = (th || ((x.1 == ix) && (x.2.toList == nm.toList))) := by
                rw [List.take_add_one, hx, hth, str_eq]
                unfold hasG
                rw [List.any_append]
                simp
                rfl
              have HNX := Lib.hid hnx
              clear hnx hth hx
              obtain ⟨b1, hb1⟩ : ∃ q, (x.1 == ix) = q := ⟨_, rfl⟩
              cases th with
              | true =>
                go_wp2_with fail
                go_quiet (fail)
                go_wp2_with fail
                go_roundw
                case rel => exact ⟨i + 1, m + nq, by omega, by go_num, by rw [HNX.out]; rfl, by first | rfl | rw [World.drewN_drewN]⟩
                case measure => simp [intOf]; omega
              | false =>
                cases b1 with
                | false =>
                  go_wp2_with fail
                  go_quiet (fail)
                  go_wp2_with fail
                  go_roundw
                  case rel => exact ⟨i + 1, m + nq, by omega, by go_num, by rw [HNX.out, hb1]; rfl, by first | rfl | rw [World.drewN_drewN]⟩
                  case measure => simp [intOf]; omega
                | true =>
                  go_wp2_with fail
                  go_quiet (fail)
                  go_wp2_with fail
                  go_roundw
                  case rel => exact ⟨i + 1, m + nq, by omega, by go_num, by rw [HNX.out, hb1]; rfl, by first | rfl | rw [World.drewN_drewN]⟩
                  case measure => simp [intOf]; omega
            · obtain rfl : i = acc.length := by omega
              have hlt2 : ¬ ((acc.length : Int) < (acc.length : Int)) := by omega
              obtain ⟨th, hth⟩ : ∃ q, hasG (acc.take acc.length) (ix, nm) = q := ⟨_, rfl⟩
              rw [hth]
              rw [List.take_length] at hth
              have HTH := Lib.hid hth
              clear hth
              have hbm : Below w1.heap.size w1 (w1.drewN m) := bdrewN (Below.refl _ _) m
              cases th with
              | true =>
                have ha := HA2.out
                unfold addG at ha
                rw [if_pos HTH.out] at ha
                have HA3 := Lib.hid ha
                clear ha
                go_wp2_with fail
                go_meet
                rw [HA3.out]
                exact (GQ.refl HG.out).below hbm
              | false =>
                have ha := HA2.out
                unfold addG at ha
                rw [if_neg (by rw [HTH.out]; simp)] at ha
                have HA3 := Lib.hid ha
                have hba : Below (w1.drewN m).heap.size (w1.drewN m) ((w1.drewN m).alloc (.cells #[.int .i64 ix] 3)) := (Below.refl _ _).alloc (Nat.le_refl _) _
                have hbA := hbm.trans hba
                have HV := Lib.hid (HG.out.below hbA)
                have HXA := Lib.hid (HX.out.below hbA HX.out.lt)
                have HBA := Lib.hid hbA
                have hbsA : base ≤ ((w1.drewN m).alloc (.cells #[.int .i64 ix] 3)).heap.size := Nat.le_trans hbs1 hbA.size
                have t7m : (w1.drewN m).cell? ⟨w.heap.size, 7, none⟩ = some (.int .i64 ix) := t7
                clear ha hba hbA hbm t7 t8
                go_wp2_with (first
                  | (at_builtin; refine wpList_append_lies _ rfl (.tmp 51) (.tmp 54) 35 rfl base 3 i1 (.int .i64 0) 1 8 Try.underlying35 hi1 hz10 hz11 hz12 rfl (by decide) (.slice A1 acc.length c1) acc.length (ixs acc) rfl HV.out.ia ⟨w1.heap.size, 0, none⟩ 1 1 [.int .i64 ix] rfl rfl (new_atT (w1.drewN m) 3 [.int .i64 ix]) (by simp [Value.oneCell']) (by decide) (by unfold maxLen; omega) (by omega) hbsA _ rfl ?_; intro g cap2 w2 hou hgr hat hl2; have hne : some w.heap.size ≠ (Value.slice A1 acc.length c1).ownBlock := (fun e => (by have := (HGO.out w.heap.size (List.mem_append_left _ (by rw [← e]; simp))).2; omega)); have hx2 := HXA.out.grown hgr hne; have t8 : w2.cell? ⟨w.heap.size, 8, none⟩ = some (.string nm) := hx2.cell 8; have hib := ownsRow_kept HV.out.ib hgr (apart_types HV.out.ib HV.out.ia (by decide)); have HIB := Lib.hid (own_below hib ((Below.refl _ _).alloc (Nat.le_refl _) (.cells #[.string nm] 9))); have HOU := Lib.hid hou; have HGR := Lib.hid hgr; have HAT := Lib.hid hat; have HZ2 := Lib.hid hgr.size; have hbs2 : base ≤ (w2.alloc (.cells #[.string nm] 9)).heap.size := Nat.le_trans hbsA (Nat.le_trans hgr.size (by simp)); clear hne hx2 hib hou hgr hat)
                  | (at_builtin; refine wpList_append_lies _ rfl (.tmp 56) (.tmp 59) 36 rfl base 9 i2 (.string ⟨#[]⟩) 1 16 Try.underlying36 hi2 hz20 hz21 hz22 rfl (by decide) (.slice A2 acc.length c2) acc.length (nms acc) rfl HIB.out ⟨w2.heap.size, 0, none⟩ 1 1 [.string nm] rfl rfl (new_atT w2 9 [.string nm]) (by simp [Value.oneCell']) (by decide) (by unfold maxLen; omega) (by omega) hbs2 _ rfl ?_; intro gs cap3 w3 hos hgs hats hl3; have HOS := Lib.hid hos; have HGS := Lib.hid hgs; have HATS := Lib.hid hats; clear hos hgs hats))
                go_meet
                have hsw2 : w1.heap.size ≤ w2.heap.size := Nat.le_trans HBA.out.size HZ2.out
                rw [HA3.out]
                have hia := ownsRow_kept (own_below HOU.out ((Below.refl w2.heap.size w2).alloc (Nat.le_refl _) (.cells #[.string nm] 9))) HGS.out (apart_types (own_below HOU.out ((Below.refl w2.heap.size w2).alloc (Nat.le_refl _) (.cells #[.string nm] 9))) HIB.out (by decide))
                refine ⟨⟨?_, ?_⟩, ?_, ?_, ?_⟩
                · rw [show (acc ++ [(ix, nm)]).length = acc.length + 1 from by simp, show ixs (acc ++ [(ix, nm)]) = ixs acc ++ [.int .i64 ix] from by simp [ixs]]
                  exact hia
                · rw [show (acc ++ [(ix, nm)]).length = acc.length + 1 from by simp, show nms (acc ++ [(ix, nm)]) = nms acc ++ [.string nm] from by simp [nms]]
                  exact HOS.out
                · exact (((Kept.of_below (L := []) HBA.out).trans (Kept.of_grown' HGR.out)).trans ((Kept.alloc (L := []) (.cells #[.string nm] 9)).trans (Kept.of_grown' HGS.out))).more (by intro x hx; simp only [List.nil_append] at hx; exact .inl hx)
                · rcases HAT.out with e | e
                  · exact .inl e.symm
                  · exact .inr ⟨g, rfl, by rw [e]; exact HBA.out.size⟩
                · rcases HATS.out with e | e
                  · exact .inl e.symm
                  · exact .inr ⟨gs, rfl, by rw [e]; exact Nat.le_trans hsw2 (by simp)⟩
      case rest =>
        have HQ := Lib.hid hcut
        clear hcut
        have HB1 := HB0.out.size
        have hX : ∀ (acc' : List Lab) (s1 s2 : Value) (wr : World), GQ base w1 (.slice A1 acc.length c1) (.slice A2 acc.length c2) acc' s1 s2 wr → Blk wr w.heap.size 25 [.int .i64 k, .slice ra r.length rc, .int .i64 ast, .slice sa l.length sc, .int .i64 mn, .int .i64 mx, .bool z, .int .i64 ix, .string nm] := fun _ _ _ _ h => HX.out.kept h.kept fun hm => by have := (HGO.out _ hm).2; omega
        have hSk : ∀ (acc' : List Lab) (s1 s2 : Value) (wr : World), GQ base w1 (.slice A1 acc.length c1) (.slice A2 acc.length c2) acc' s1 s2 wr → ∀ x, S x → wr.heap[x]? = w1.heap[x]? := fun _ _ _ _ h x hx => h.kept.block x (Nat.lt_of_lt_of_le (HS.out x hx) hbs1) fun hm => by have := (HGO.out _ hm).1; have := HS.out x hx; omega
        have HXX := Lib.hid hX
        have HSK := Lib.hid hSk
        clear hX hSk
        go_wp2_with fail
        go_loopw [1, 2, 10] (fun s1 s2 iv wr => ∃ (i : Nat), i ≤ l.length ∧ iv = .int .i64 (i : Int) ∧ GQ base w1 (.slice A1 acc.length c1) (.slice A2 acc.length c2) (groupssS (trs (l.take i)) acc1) s1 s2 wr) (fun _ _ iv _ => l.length - (intOf iv).toNat)
        case atStart => exact ⟨0, Nat.zero_le _, rfl, by rw [List.take_zero, trs, groupssS]; exact HQ.out⟩
        case round =>
          obtain ⟨i, hi, rfl, hq⟩ := hrel
          have HQ2 := Lib.hid hq
          have t3 : wr.cell? ⟨w.heap.size, 3, none⟩ = some (.slice sa l.length sc) := (HXX.out _ _ _ _ hq).cell 3
          have hwr := hq.kept.size
          clear hq
          by_cases hlt : i < l.length
          · have hlt2 : (i : Int) < (l.length : Int) := by omega
            obtain ⟨b, off, rfl, hSb, _⟩ := HN.out.2.2.2.2 (by omega)
            obtain ⟨u, hu⟩ : ∃ u, l[i]? = some u := ⟨_, List.getElem?_eq_getElem hlt⟩
            have hum : u ∈ l := List.mem_of_getElem? hu
            have hcell : ∀ j, j < 9 → wr.cell? ⟨b, off + i * 9 + j, none⟩ = u.vals[j]? := fun j hj => by
              rw [Nat.add_assoc, World.cell?_of_block (a := ⟨b, off + (i * 9 + j), none⟩) (HSK.out _ _ _ _ HQ2.out b hSb)]
              exact HN.out.node hu hj
            have hlen : (groupssS (trs (l.take i)) acc1).length + size u.tr ≤ 1000000000 := by
              have h1 := groupss_len (trs (l.take i)) acc1
              have h2 := sizes_take hu
              have h3 := sizes_take_le l (i + 1)
              omega
            have hRK := HIH.out u hum S wr base _ _ (groupssS (trs (l.take i)) acc1) ((HT.out u hum).go (HSK.out _ _ _ _ HQ2.out)) HS.out (Nat.le_trans hbs1 hwr) HQ2.out.gv hlen
            have HTK := Lib.hid (show trs (l.take (i + 1)) = trs (l.take i) ++ [u.tr] from by rw [List.take_add_one, hu, trs_map, trs_map, List.map_append]; rfl)
            clear hlen hu hum
            obtain ⟨ut, hut⟩ : ∃ q, q = u.tr := ⟨_, rfl⟩
            rw [← hut] at hRK HTK
            clear hut
            cases u with
            | mk k' r' ra' rc' a' l' sa' sc' n' m' z' i' s' =>
            simp only [Ta.vals] at hcell
            simp only [Ta.val, Ta.vals] at hRK
            have c0 := hcell 0 (by omega)
            have c1' := hcell 1 (by omega)
            have c2' := hcell 2 (by omega)
            have c3 := hcell 3 (by omega)
            have c4 := hcell 4 (by omega)
            have c5 := hcell 5 (by omega)
            have c6 := hcell 6 (by omega)
            have c7 := hcell 7 (by omega)
            have c8 := hcell 8 (by omega)
            simp only [List.getElem?_cons_zero, List.getElem?_cons_succ, Nat.add_zero] at c0 c1' c2' c3 c4 c5 c6 c7 c8
            have HIN := Lib.hid hRK
            clear hcell hRK
            go_wp2_with fail
            refine HIN.out.mono ?_
            rintro e w5 ⟨a2, b2, rfl, hq5⟩
            have HQ5 := Lib.hid (HQ2.out.trans hq5)
            clear hq5
            simp only []
            go_wp2_with fail
            go_roundw
            case rel => exact ⟨i + 1, by omega, by go_num, by rw [HTK.out, groupss_app, groupssS, groupssS]; exact HQ5.out⟩
            case measure => simp [intOf]; omega
          · obtain rfl : i = l.length := by omega
            have hlt2 : ¬ ((l.length : Int) < (l.length : Int)) := by omega
            go_wp2_with fail
            go_ret2
            have hfin := HQ2.out
            rw [List.take_length] at hfin
            exact ⟨_, _, rfl, ⟨hfin.gv, ((Kept.of_below (L := []) HB0.out).trans hfin.kept).more (by intro x hx; simp only [List.nil_append] at hx; exact .inl hx), (show OW w _ _ from .inl rfl).trans hfin.oa HB1, (show OW w _ _ from .inl rfl).trans hfin.ob HB1⟩⟩
  exact main _ rfl
theorem groups_any : ∀ t : Ta, GR t := by
  intro t
  induction t using Ta.ind with
  | h t ih =>
    intro S w base a b acc h hS hB hg hl
    cases t with
    | mk k r ra rc ast l sa sc mn mx z ix nm =>
    have htr : groupsS (Ta.mk k r ra rc ast l sa sc mn mx z ix nm).tr acc = if k = 6 ∧ mx = 0 then acc else groupssS (trs l) (if k = 7 then addG acc (ix, nm) else acc) := by rw [Ta.tr, groupsS]
    rw [htr]
    by_cases h60 : k = 6 ∧ mx = 0
    · rw [if_pos h60]
      have hb0 : Below w.heap.size w (w.alloc (.cells #[.int .i64 k, .slice ra r.length rc, .int .i64 ast, .slice sa l.length sc, .int .i64 mn, .int .i64 mx, .bool z, .int .i64 ix, .string nm] 25)) := (Below.refl _ _).alloc (Nat.le_refl _) _
      have HQ := Lib.hid ((GQ.refl hg).below hb0)
      have e6 : (k == 6) = true := by simpa using h60.1
      have e0 : (mx == 0) = true := by simpa using h60.2
      clear h60 h hS hg hl hb0 htr ih
      simp only [Ta.val, Ta.vals]
      go_enter Try.func14, Try.ntmps14
      go_wp2_with fail
      go_ret2
      exact ⟨_, _, rfl, HQ.out⟩
    · rw [if_neg h60]
      exact groups_rest k r ra rc ast l sa sc mn mx z ix nm (fun u hu => ih u hu) S w h base hS hB a b acc _ hg hl (by rw [Bool.and_eq_false_iff, beq_eq_false_iff_ne, beq_eq_false_iff_ne]; by_cases q : k = 6; exact .inr fun r => h60 ⟨q, r⟩; exact .inl q) rfl
end Go.Proofs.Ytajpkgbgfneacaa
