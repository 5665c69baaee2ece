/- heronlaw09.ProgBeside: true. -/
import Derived.BigQuiet
import Derived.BigRegion
import Derived.Deep.QuietTactic
import Derived.Test.YtfgelkfnbohmmaaP06
import Derived.Test.YtfgelkfnbohmmaaP45
import Derived.Test.YtfgelkfnbohmmaaP46
import Derived.Test.YtfgelkfnbohmmaaP48
import Derived.Test.YtfgelkfnbohmmaaP50
namespace Go.Proofs.Ytfgelkfnbohmmaa
open Go.RowKit Go.Proofs.Ytfgelkfnbohmmaa.Mach
theorem firstJ_drop {t : List Int} {b C : Nat} {pl : List PgV} {i : Nat} {v : PgV} (hv : pl[i]? = some v) :
    firstJ t b C (prgs (pl.drop i)) i = match resAt v.prg t b with | some w => some (w.1 ++ List.replicate (C - v.prg.caps.toNat) (-1), (i : Int)) | none => firstJ t b C (prgs (pl.drop (i + 1))) (i + 1) := by
  obtain ⟨hi, he⟩ := List.getElem?_eq_some_iff.1 hv
  rw [List.drop_eq_getElem_cons hi, he, prgs, List.map_cons, firstJ]
  rfl
theorem blk_readsI {w : World} {C n : Nat} {l : List Int} (h : Blk w C 3 (l.map (Value.int .i64))) (hl : l.length = n) (hn : n ≤ 1099511627) : Reads w w.heap.size 1 (some ⟨C, 0, none⟩) n n (l.map (Value.int .i64)) := by
  refine ⟨Nat.le_refl _, by omega, by rw [List.length_map]; omega, fun _ => ⟨C, 0, rfl, h.lt, fun j u hu => ?_⟩⟩
  rw [Nat.zero_add]
  exact (h.cell j).trans hu
/-- What Find answers, in the words of resAt. -/
theorem find9_res (p : Prg) (t : List Int) (L : List InV) (A At : Option Addr) (n c nt ct cl b : Nat) (start : Int) (w : World) (hp : ReadsP w w.heap.size A n c L) (ht : Reads w w.heap.size 1 At nt ct (t.map (Value.int .i64))) (hpi : p.insts = insL L) (hst : p.start = start) (hcp : p.caps = (cl : Int)) (hc : checkB p = true) (hnt : nt ≤ 1000) (hb : b ≤ nt) :
    Calls Try.prog 14 #[.agg #[.slice A n c, .int .i64 start, .int .i64 (cl : Int)], .slice At nt ct, .int .i64 (b : Int), .bool true] w fun e w' => ∃ (ok : Bool) (XA : Option Addr) (xl : Nat) (xw : Int) (xc : List Int),
      e = .returned (.agg #[.bool ok, .slice XA xl xl, .int .i64 xw, .int .i64 0]) ∧ Below w.heap.size w w' ∧ Reads w' w'.heap.size 1 XA xl xl (xc.map (Value.int .i64)) ∧ resAt p t b = (if ok = true then some (xc, xw) else none) ∧ (ok = true → xl = cl ∧ xc.length = cl) := by
  have hcl : cl ≤ 1002 := by have := head_of hc; omega
  refine (find9_any p t L A At n c nt ct cl b start w hp ht hpi hst hcp hc hnt hb).mono ?_
  rintro e w' ⟨hb, ⟨hf, rfl⟩ | ⟨wh, C, hf, rfl, hk, hl⟩⟩
  · exact ⟨false, none, 0, 0, [], rfl, hb, Reads.none_, by unfold resAt; rw [show Mach.walkAt p t b = walkAt p t b from rfl, hf]; rfl, by simp⟩
  · exact ⟨true, some ⟨C, 0, none⟩, cl, wh, (walkAt p t b).caps, rfl, hb, blk_readsI hk hl (by omega), by unfold resAt; rw [show Mach.walkAt p t b = walkAt p t b from rfl, hf]; rfl, fun _ => ⟨rfl, hl⟩⟩
set_option maxRecDepth 100000 in
set_option maxHeartbeats 8000000 in
theorem beside_law (A At : Option Addr) (n c nt ct : Nat) (pl : List PgV) (t : List Int) (w : World) (h : ReadsG w w.heap.size A n c pl) (ht : Reads w w.heap.size 1 At nt ct (t.map (Value.int .i64))) :
    Calls Try.prog 5 #[.slice A n c, .slice At nt ct] w fun e w' => e = .returned (.bool true) ∧ Below w.heap.size w w' := by
  have hnc := h.1.1
  have hcc := h.1.2.1
  have hntc := ht.1
  have hct := ht.2.1
  have htl : t.length = nt := by have := ht.len; simpa using this
  have HPL := Lib.hid h.len
  have H := Lib.hid h
  have HT := Lib.hid ht
  have HTL := Lib.hid htl
  clear h ht htl
  go_enter Try.func5, Try.ntmps5
  go_wp2_with fail
  refine (awake9_any w).mono ?_
  rintro e w1 ⟨rfl, hb1⟩
  have HB1 := Lib.hid hb1
  clear hb1
  simp only []
  go_wp2_with fail
  refine (join_any A n c pl w1 ((H.out.below HB1.out).more HB1.out.size)).mono ?_
  rintro e w2 ⟨hb2, hcase⟩
  have HB2 := Lib.hid (HB1.out.trans (hb2.mono HB1.out.size))
  clear hb2
  rcases hcase with ⟨er, her, rfl⟩ | ⟨VA, vn, vc, L, rfl, hrl, hins, hne, hck, h100, hsum⟩
  · have her1 : (er == 0) = false := by simpa using her
    simp only []
    go_wp2_with fail
    go_ret
    exact ⟨rfl, HB2.out.alloc HB2.out.size _⟩
  have hpl2 : (prgs pl).length = pl.length := by rw [prgs, List.length_map]
  have hj : checkB (joinP (prgs pl)) = true := join_chk (by intro e; rw [e] at hpl2; exact hne (List.length_eq_zero_iff.1 hpl2.symm)) hck (by omega) (by omega)
  have hres := fun b (hb : b ≤ t.length) => join_res (t := t) hb (l := prgs pl) (by intro e; rw [e] at hpl2; exact hne (List.length_eq_zero_iff.1 hpl2.symm)) hck hj
  obtain ⟨cl, hcl⟩ : ∃ cl : Nat, (joinP (prgs pl)).caps = (cl : Int) := ⟨(joinP (prgs pl)).caps.toNat, by have := head_of hj; omega⟩
  rw [show (capsJ (prgs pl) 0).toNat = cl from by have : capsJ (prgs pl) 0 = (cl : Int) := hcl; omega] at hres
  obtain ⟨pj, hpj⟩ : ∃ pj, pj = joinP (prgs pl) := ⟨_, rfl⟩
  rw [← hpj] at hj hres hcl hins
  obtain ⟨vst, hst⟩ : ∃ vst, vst = pj.start := ⟨_, rfl⟩
  have HBP := Lib.hid (show Below w2.heap.size w2 (w2.alloc (.cells #[.slice VA vn vc, .int .i64 vst, .int .i64 (cl : Int)] 30)) from (Below.refl _ _).alloc (Nat.le_refl _) _)
  have HPB := Lib.hid (Blk.new w2 30 [.slice VA vn vc, .int .i64 vst, .int .i64 (cl : Int)])
  have HVP := Lib.hid ((hrl.below HBP.out).more HBP.out.size)
  have HB3 := Lib.hid (HB2.out.trans (HBP.out.mono HB2.out.size))
  have HJ := Lib.hid hj
  have HRES := Lib.hid hres
  have HCL := Lib.hid hcl
  have HINS := Lib.hid hins
  have HCK := Lib.hid hck
  have HST := Lib.hid hst
  have h100b : n ≤ 100 := by have := HPL.out; omega
  have hpst : (joinP (prgs pl)).start = vst := by rw [← hpj]; exact hst.symm
  have hpcl : (joinP (prgs pl)).caps = (cl : Int) := by rw [← hpj]; exact hcl
  simp only [hpst, hpcl]
  clear hrl hj hres hcl hins hck hst hpst hpcl hpj hne h100 hsum hpl2
  by_cases h20 : ¬ nt ≤ 20
  · have h20b : (20 : Int) < (nt : Int) := by omega
    go_wp2_with fail
    go_ret
    exact ⟨rfl, HB3.out⟩
  have h20b : ¬ ((20 : Int) < (nt : Int)) := by omega
  have p0 := HPB.out.cell 0
  have p1 := HPB.out.cell 1
  have p2 := HPB.out.cell 2
  simp only [List.getElem?_cons_succ, List.getElem?_cons_zero] at p0 p1 p2
  go_wp2_with fail
  generalize (w2.alloc (.cells #[.slice VA vn vc, .int .i64 vst, .int .i64 (cl : Int)] 30)) = w3 at *
  have HRC := Lib.hid (refCheck_any VA vn vc L vst (cl : Int) w3 HVP.out)
  rw [show (⟨insL L, vst, (cl : Int)⟩ : Prg) = pj from by have h1 := HINS.out; have h2 := HST.out; have h3 := HCL.out; cases pj; simp only at h1 h2 h3; rw [h1, h2, h3], show chkE pj = 0 from chk_zero.2 HJ.out] at HRC
  refine HRC.out.mono ?_
  rintro e w4 ⟨rfl, hb4⟩
  have HB4 := Lib.hid hb4
  clear hb4 HRC p0 p1 p2
  simp only []
  go_wp2_with fail
  go_loopw [9, 8] (fun iv fv wr => ∃ i : Nat, i ≤ n ∧ iv = .int .i64 (i : Int) ∧ fv = .int .i64 0 ∧ Below w3.heap.size w3 wr) (fun iv _ _ => n - (intOf iv).toNat)
  case atStart => exact ⟨0, Nat.zero_le _, rfl, rfl, HB4.out⟩
  case round =>
    obtain ⟨i, hi, rfl, rfl, hbr⟩ := hrel
    have HBR := Lib.hid hbr
    clear hbr
    by_cases hlt : i < n
    · have hlt2 : (i : Int) < (n : Int) := by omega
      obtain ⟨ba, oa, rfl, hba⟩ := H.out.1.at_ (by omega)
      obtain ⟨v, hv⟩ : ∃ v, pl[i]? = some v := ⟨_, List.getElem?_eq_getElem (by rw [HPL.out]; exact hlt)⟩
      have hbw := HB3.out.trans (HBR.out.mono HB3.out.size)
      obtain ⟨c0, c1, c2⟩ := (H.out.below hbw).cells hv
      have HVR := Lib.hid (((H.out.2 v (List.mem_of_getElem? hv)).below hbw).more hbw.size)
      have HCV := Lib.hid (HCK.out v.prg (List.mem_map_of_mem (List.mem_of_getElem? hv)))
      obtain ⟨vA', vn', vc', vst', vcp', vL'⟩ := v
      simp only [] at c0 c1 c2 HVR
      clear hv hba hbw
      go_wp2_with fail
      have HRC := Lib.hid (refCheck_any vA' vn' vc' vL' vst' vcp' wr HVR.out)
      rw [show chkE ⟨insL vL', vst', vcp'⟩ = 0 from chk_zero.2 HCV.out] at HRC
      refine HRC.out.mono ?_
      rintro e w5 ⟨rfl, hb5⟩
      have HB5 := Lib.hid (HBR.out.trans (hb5.mono HBR.out.size))
      clear hb5 HRC c0 c1 c2
      simp only []
      go_wp2_with fail
      exact ⟨⟨i + 1, by omega, by go_num, rfl, HB5.out⟩, by simp [intOf]; omega⟩
    · obtain rfl : i = n := by omega
      have hlt2 : ¬ ((i : Int) < (i : Int)) := by omega
      go_wp2_with fail
      go_loopw [10] (fun av wa => ∃ a : Nat, a ≤ nt + 1 ∧ av = .int .i64 (a : Int) ∧ Below w3.heap.size w3 wa) (fun av _ => nt + 1 - (intOf av).toNat)
      case atStart => exact ⟨0, Nat.zero_le _, rfl, HBR.out⟩
      case round =>
        obtain ⟨a, ha, rfl, hba⟩ := hrel
        obtain ⟨wa, hwa⟩ : ∃ wa, wa = wr := ⟨_, rfl⟩
        subst hwa
        have HBA := Lib.hid hba
        clear hba
        by_cases hle : a ≤ nt
        · have hle2 : (a : Int) ≤ (nt : Int) := by omega
          have q0 := (HPB.out.below HBA.out HPB.out.lt).cell 0
          have q1 := (HPB.out.below HBA.out HPB.out.lt).cell 1
          have q2 := (HPB.out.below HBA.out HPB.out.lt).cell 2
          simp only [List.getElem?_cons_succ, List.getElem?_cons_zero] at q0 q1 q2
          go_wp2_with fail
          have hbw := HB3.out.trans (HBA.out.mono HB3.out.size)
          refine (find9_res pj t L VA At vn vc nt ct cl a vst wa ((HVP.out.below HBA.out).more HBA.out.size) ((HT.out.below hbw).more hbw.size) HINS.out.symm HST.out.symm HCL.out HJ.out (by omega) hle).mono ?_
          rintro e w6 ⟨ok, XA, xl, xw, xc, rfl, hb6, hxr, hre, hok⟩
          have HBX := Lib.hid (hb6.trans ((show Below w6.heap.size w6 (w6.alloc (.cells #[.bool ok, .slice XA xl xl, .int .i64 xw, .int .i64 0] 41)) from (Below.refl _ _).alloc (Nat.le_refl _) _).mono hb6.size))
          have hbx := show Below w6.heap.size w6 (w6.alloc (.cells #[.bool ok, .slice XA xl xl, .int .i64 xw, .int .i64 0] 41)) from (Below.refl _ _).alloc (Nat.le_refl _) _
          have HX := Lib.hid (Blk.new w6 41 [.bool ok, .slice XA xl xl, .int .i64 xw, .int .i64 0])
          have HXR := Lib.hid ((hxr.below hbx).more hbx.size)
          have HFJ := Lib.hid ((HRES.out a (by have := HTL.out; omega)).symm.trans hre)
          have HOK := Lib.hid hok
          clear hb6 hxr hre hok hbx hbw q0 q1 q2
          simp only []
          go_wp2_with fail
          generalize (w6.alloc (.cells #[.bool ok, .slice XA xl xl, .int .i64 xw, .int .i64 0] 41)) = wx at *
          go_loopw [14, 12, 13] (fun iv wv cv wq => ∃ m : Nat, m ≤ i ∧ iv = .int .i64 (m : Int) ∧ Below wx.heap.size wx wq ∧ ((wv = .int .i64 (-1) ∧ cv = .slice none 0 0 ∧ firstJ t a cl (prgs pl) 0 = firstJ t a cl (prgs (pl.drop m)) m) ∨
            ∃ (j : Nat) (YA : Option Addr) (yl : Nat) (yc : List Int), wv = .int .i64 (j : Int) ∧ cv = .slice YA yl yl ∧ Reads wq wq.heap.size 1 YA yl yl (yc.map (Value.int .i64)) ∧ firstJ t a cl (prgs pl) 0 = some (yc ++ List.replicate (cl - yl) (-1), (j : Int)))) (fun iv _ _ _ => i - (intOf iv).toNat)
          case atStart => exact ⟨0, Nat.zero_le _, rfl, Below.refl _ _, .inl ⟨rfl, rfl, rfl⟩⟩
          case round =>
            obtain ⟨m, hm, rfl, hbq, ⟨rfl, rfl, hfj⟩ | ⟨j, YA, yl, yc, rfl, rfl, hyr, hfj⟩⟩ := hrel
            · by_cases hml : m < i
              · have hml2 : (m : Int) < (i : Int) := by omega
                have HBQ := Lib.hid hbq
                have HFM := Lib.hid hfj
                clear hbq hfj
                have hbw := HB3.out.trans ((HBA.out.trans ((HBX.out.trans (HBQ.out.mono HBX.out.size)).mono HBA.out.size)).mono HB3.out.size)
                obtain ⟨ba, oa, rfl, hba⟩ := H.out.1.at_ (by omega)
                obtain ⟨v, hv⟩ : ∃ v, pl[m]? = some v := ⟨_, List.getElem?_eq_getElem (by rw [HPL.out]; exact hml)⟩
                obtain ⟨c0, c1, c2⟩ := (H.out.below hbw).cells hv
                have HVR := Lib.hid (((H.out.2 v (List.mem_of_getElem? hv)).below hbw).more hbw.size)
                have HCV := Lib.hid (HCK.out v.prg (List.mem_map_of_mem (List.mem_of_getElem? hv)))
                have HDR := Lib.hid (firstJ_drop (t := t) (b := a) (C := cl) hv)
                have HTR := Lib.hid ((HT.out.below hbw).more hbw.size)
                obtain ⟨vA', vn', vc', vst', vcp', vL'⟩ := v
                obtain ⟨cp', hcp'⟩ : ∃ cp' : Nat, vcp' = (cp' : Int) := ⟨vcp'.toNat, by have := head_of HCV.out; simp only [PgV.prg] at this; omega⟩
                subst hcp'
                simp only [] at c0 c1 c2 HVR
                clear hv hba hbw
                go_wp2_with fail
                refine (find9_res ⟨insL vL', vst', (cp' : Int)⟩ t vL' vA' At vn' vc' nt ct cp' a vst' wr HVR.out HTR.out rfl rfl rfl HCV.out (by omega) hle).mono ?_
                rintro e w7 ⟨yok, YA, yl, yw, yc, rfl, hb7, hyr, hyre, hyok⟩
                have hby := show Below w7.heap.size w7 (w7.alloc (.cells #[.bool yok, .slice YA yl yl, .int .i64 yw, .int .i64 0] 41)) from (Below.refl _ _).alloc (Nat.le_refl _) _
                have HB7 := Lib.hid (HBQ.out.trans ((hb7.trans (hby.mono hb7.size)).mono HBQ.out.size))
                have HY := Lib.hid (Blk.new w7 41 [.bool yok, .slice YA yl yl, .int .i64 yw, .int .i64 0])
                have HYR := Lib.hid ((hyr.below hby).more hby.size)
                have HYRE := Lib.hid hyre
                have HYOK := Lib.hid hyok
                have y0 := HY.out.cell 0
                have y1 := HY.out.cell 1
                simp only [List.getElem?_cons_succ, List.getElem?_cons_zero] at y0 y1
                clear hb7 hyr hyre hyok hby c0 c1 c2
                simp only []
                cases yok with
                | true =>
                  go_wp2_with fail
                  obtain ⟨e1, e2⟩ := HYOK.out rfl
                  refine ⟨⟨m + 1, by omega, by go_num, HB7.out, .inr ⟨m, YA, yl, yc, rfl, rfl, HYR.out, ?_⟩⟩, by simp [intOf]; omega⟩
                  rw [HFM.out, HDR.out, show resAt (PgV.prg ⟨vA', vn', vc', vst', (cp' : Int), vL'⟩) t a = _ from HYRE.out]
                  simp only [if_true, PgV.prg]
                  rw [Int.toNat_natCast, e1]
                | false =>
                  go_wp2_with fail
                  refine ⟨⟨m + 1, by omega, by go_num, HB7.out, .inl ⟨rfl, rfl, ?_⟩⟩, by simp [intOf]; omega⟩
                  rw [HFM.out, HDR.out, show resAt (PgV.prg ⟨vA', vn', vc', vst', (cp' : Int), vL'⟩) t a = _ from HYRE.out]
                  rfl
              · obtain rfl : m = i := by omega
                have hml2 : ¬ ((m : Int) < (m : Int)) := by omega
                have hno : firstJ t a cl (prgs pl) 0 = none := by rw [hfj, List.drop_of_length_le (by rw [HPL.out]; exact Nat.le_refl _)]; rfl
                have hofs : ok = false := by
                  cases ok with
                  | false => rfl
                  | true => have := HFJ.out; rw [hno] at this; simp at this
                subst hofs
                have HBQ := Lib.hid hbq
                have x0 := (HX.out.below hbq HX.out.lt).cell 0
                simp only [List.getElem?_cons_zero] at x0
                clear hbq hfj hno
                go_wp2_with fail
                go_roundw
                case rel => exact ⟨a + 1, by omega, by go_num, HBA.out.trans ((HBX.out.trans (HBQ.out.mono HBX.out.size)).mono HBA.out.size)⟩
                case measure => simp [intOf]; omega
            · have hj0 : ¬ ((j : Int) < 0) := by omega
              by_cases hml : m < i
              · have hml2 : (m : Int) < (i : Int) := by omega
                obtain ⟨wq, hwq⟩ : ∃ wq, wq = wr := ⟨_, rfl⟩
                subst hwq
                have HEQ := Lib.hid (HFJ.out.symm.trans hfj)
                clear hfj
                cases ok with
                | false => exact absurd HEQ.out (by simp)
                | true =>
                have heq := HEQ.out
                rw [if_pos rfl, Option.some.injEq, Prod.mk.injEq] at heq
                obtain ⟨hxc, hxw⟩ := heq
                subst hxw
                obtain ⟨hxl, hxcl⟩ := HOK.out rfl
                subst hxl
                have hyl := hyr.len
                rw [List.length_map, Nat.mul_one] at hyl
                have hylx : yl ≤ xl := by have := congrArg List.length hxc; rw [List.length_append, List.length_replicate] at this; omega
                have hyc := hyr.1
                have hyc2 := hyr.2.1
                have hxc2 := HXR.out.2.1
                have HXC := Lib.hid hxc
                have HYR := Lib.hid hyr
                have HYL := Lib.hid hyl
                have HXCL := Lib.hid hxcl
                have HBQ := Lib.hid hbq
                have x0 := (HX.out.below hbq HX.out.lt).cell 0
                have x1 := (HX.out.below hbq HX.out.lt).cell 1
                have x2 := (HX.out.below hbq HX.out.lt).cell 2
                have p2 := ((HPB.out.below HBA.out HPB.out.lt).below (HBX.out.trans (hbq.mono HBX.out.size)) (Nat.lt_of_lt_of_le HPB.out.lt HBA.out.size)).cell 2
                simp only [List.getElem?_cons_succ, List.getElem?_cons_zero] at x0 x1 x2 p2
                have hjn : (0 : Int) ≤ (j : Int) := by omega
                clear hbq hxc hyr hyl hxcl HEQ
                go_wp2_with fail
                go_loopw [16] (fun kv wk => ∃ k : Nat, k ≤ xl ∧ kv = .int .i64 (k : Int) ∧ Below wq.heap.size wq wk) (fun kv _ => xl - (intOf kv).toNat)
                case atStart => exact ⟨0, Nat.zero_le _, rfl, Below.refl _ _⟩
                case round =>
                  obtain ⟨k, hk, rfl, hbk⟩ := hrel
                  have HBK := Lib.hid hbk
                  have hbk2 := HBQ.out.trans (hbk.mono HBQ.out.size)
                  have x1 := (HX.out.below hbk2 HX.out.lt).cell 1
                  simp only [List.getElem?_cons_succ, List.getElem?_cons_zero] at x1
                  by_cases hkx : k < xl
                  · have hkx2 : (k : Int) < (xl : Int) := by omega
                    obtain ⟨bx, ox, rfl, hbx, hcx⟩ := (HXR.out.below hbk2).at_ (by omega)
                    by_cases hky : k < yl
                    · have hky2 : (k : Int) < (yl : Int) := by omega
                      have hky3 : decide ((k : Int) < (yl : Int)) = true := decide_eq_true hky2
                      have hky4 : decide ((yl : Int) ≤ (k : Int)) = false := decide_eq_false (by omega)
                      have hky5 : decide ((k : Int) ≥ (yl : Int)) = false := decide_eq_false (by omega)
                      have hky6 : ¬ yl ≤ k := by omega
                      have hky7 : decide (yl ≤ k) = false := decide_eq_false hky6
                      obtain ⟨u, hu⟩ : ∃ u, yc[k]? = some u := ⟨_, List.getElem?_eq_getElem (by rw [HYL.out]; exact hky)⟩
                      obtain ⟨by_, oy, rfl, hby, hcy⟩ := (HYR.out.below hbk).at_ (by omega)
                      have y1 := hcx k (.int .i64 u) (by rw [List.getElem?_map, HXC.out, List.getElem?_append_left (by rw [HYL.out]; exact hky), hu]; rfl)
                      have y2 := hcy k (.int .i64 u) (by rw [List.getElem?_map, hu]; rfl)
                      clear hu hcx hcy hbk2 hbk hbx hby
                      go_wp2_with fail
                      go_quiet (fail)
                      go_wp2_with fail
                      exact ⟨⟨k + 1, by omega, by go_num, bdrewN HBK.out _⟩, by simp [intOf]; omega⟩
                    · have hky2 : ¬ ((k : Int) < (yl : Int)) := by omega
                      have hky3 : decide ((k : Int) < (yl : Int)) = false := decide_eq_false hky2
                      have hky4 : decide ((yl : Int) ≤ (k : Int)) = true := decide_eq_true (by omega)
                      have hky5 : decide ((k : Int) ≥ (yl : Int)) = true := decide_eq_true (by omega)
                      have hky6 : yl ≤ k := by omega
                      have hky7 : decide (yl ≤ k) = true := decide_eq_true hky6
                      have y1 := hcx k (.int .i64 (-1)) (by rw [List.getElem?_map, HXC.out, List.getElem?_append_right (by rw [HYL.out]; omega), List.getElem?_replicate, if_pos (by rw [HYL.out]; omega)]; rfl)
                      clear hcx hbk2 hbk hbx
                      go_wp2_with fail
                      go_quiet (fail)
                      go_wp2_with fail
                      exact ⟨⟨k + 1, by omega, by go_num, bdrewN HBK.out _⟩, by simp [intOf]; omega⟩
                  · obtain rfl : k = xl := by omega
                    have hkx2 : ¬ ((k : Int) < (k : Int)) := by omega
                    clear hbk2 hbk
                    go_wp2_with fail
                    go_roundw
                    case rel => exact ⟨a + 1, by omega, by go_num, HBA.out.trans ((HBX.out.trans ((HBQ.out.trans (HBK.out.mono HBQ.out.size)).mono HBX.out.size)).mono HBA.out.size)⟩
                    case measure => simp [intOf]; omega
              · have hml2 : ¬ ((m : Int) < (i : Int)) := by omega
                obtain ⟨wq, hwq⟩ : ∃ wq, wq = wr := ⟨_, rfl⟩
                subst hwq
                have HEQ := Lib.hid (HFJ.out.symm.trans hfj)
                clear hfj
                cases ok with
                | false => exact absurd HEQ.out (by simp)
                | true =>
                have heq := HEQ.out
                rw [if_pos rfl, Option.some.injEq, Prod.mk.injEq] at heq
                obtain ⟨hxc, hxw⟩ := heq
                subst hxw
                obtain ⟨hxl, hxcl⟩ := HOK.out rfl
                subst hxl
                have hyl := hyr.len
                rw [List.length_map, Nat.mul_one] at hyl
                have hylx : yl ≤ xl := by have := congrArg List.length hxc; rw [List.length_append, List.length_replicate] at this; omega
                have hyc := hyr.1
                have hyc2 := hyr.2.1
                have hxc2 := HXR.out.2.1
                have HXC := Lib.hid hxc
                have HYR := Lib.hid hyr
                have HYL := Lib.hid hyl
                have HXCL := Lib.hid hxcl
                have HBQ := Lib.hid hbq
                have x0 := (HX.out.below hbq HX.out.lt).cell 0
                have x1 := (HX.out.below hbq HX.out.lt).cell 1
                have x2 := (HX.out.below hbq HX.out.lt).cell 2
                have p2 := ((HPB.out.below HBA.out HPB.out.lt).below (HBX.out.trans (hbq.mono HBX.out.size)) (Nat.lt_of_lt_of_le HPB.out.lt HBA.out.size)).cell 2
                simp only [List.getElem?_cons_succ, List.getElem?_cons_zero] at x0 x1 x2 p2
                have hjn : (0 : Int) ≤ (j : Int) := by omega
                clear hbq hxc hyr hyl hxcl HEQ
                go_wp2_with fail
                go_loopw [16] (fun kv wk => ∃ k : Nat, k ≤ xl ∧ kv = .int .i64 (k : Int) ∧ Below wq.heap.size wq wk) (fun kv _ => xl - (intOf kv).toNat)
                case atStart => exact ⟨0, Nat.zero_le _, rfl, Below.refl _ _⟩
                case round =>
                  obtain ⟨k, hk, rfl, hbk⟩ := hrel
                  have HBK := Lib.hid hbk
                  have hbk2 := HBQ.out.trans (hbk.mono HBQ.out.size)
                  have x1 := (HX.out.below hbk2 HX.out.lt).cell 1
                  simp only [List.getElem?_cons_succ, List.getElem?_cons_zero] at x1
                  by_cases hkx : k < xl
                  · have hkx2 : (k : Int) < (xl : Int) := by omega
                    obtain ⟨bx, ox, rfl, hbx, hcx⟩ := (HXR.out.below hbk2).at_ (by omega)
                    by_cases hky : k < yl
                    · have hky2 : (k : Int) < (yl : Int) := by omega
                      have hky3 : decide ((k : Int) < (yl : Int)) = true := decide_eq_true hky2
                      have hky4 : decide ((yl : Int) ≤ (k : Int)) = false := decide_eq_false (by omega)
                      have hky5 : decide ((k : Int) ≥ (yl : Int)) = false := decide_eq_false (by omega)
                      have hky6 : ¬ yl ≤ k := by omega
                      have hky7 : decide (yl ≤ k) = false := decide_eq_false hky6
                      obtain ⟨u, hu⟩ : ∃ u, yc[k]? = some u := ⟨_, List.getElem?_eq_getElem (by rw [HYL.out]; exact hky)⟩
                      obtain ⟨by_, oy, rfl, hby, hcy⟩ := (HYR.out.below hbk).at_ (by omega)
                      have y1 := hcx k (.int .i64 u) (by rw [List.getElem?_map, HXC.out, List.getElem?_append_left (by rw [HYL.out]; exact hky), hu]; rfl)
                      have y2 := hcy k (.int .i64 u) (by rw [List.getElem?_map, hu]; rfl)
                      clear hu hcx hcy hbk2 hbk hbx hby
                      go_wp2_with fail
                      go_quiet (fail)
                      go_wp2_with fail
                      exact ⟨⟨k + 1, by omega, by go_num, bdrewN HBK.out _⟩, by simp [intOf]; omega⟩
                    · have hky2 : ¬ ((k : Int) < (yl : Int)) := by omega
                      have hky3 : decide ((k : Int) < (yl : Int)) = false := decide_eq_false hky2
                      have hky4 : decide ((yl : Int) ≤ (k : Int)) = true := decide_eq_true (by omega)
                      have hky5 : decide ((k : Int) ≥ (yl : Int)) = true := decide_eq_true (by omega)
                      have hky6 : yl ≤ k := by omega
                      have hky7 : decide (yl ≤ k) = true := decide_eq_true hky6
                      have y1 := hcx k (.int .i64 (-1)) (by rw [List.getElem?_map, HXC.out, List.getElem?_append_right (by rw [HYL.out]; omega), List.getElem?_replicate, if_pos (by rw [HYL.out]; omega)]; rfl)
                      clear hcx hbk2 hbk hbx
                      go_wp2_with fail
                      go_quiet (fail)
                      go_wp2_with fail
                      exact ⟨⟨k + 1, by omega, by go_num, bdrewN HBK.out _⟩, by simp [intOf]; omega⟩
                  · obtain rfl : k = xl := by omega
                    have hkx2 : ¬ ((k : Int) < (k : Int)) := by omega
                    clear hbk2 hbk
                    go_wp2_with fail
                    go_roundw
                    case rel => exact ⟨a + 1, by omega, by go_num, HBA.out.trans ((HBX.out.trans ((HBQ.out.trans (HBK.out.mono HBQ.out.size)).mono HBX.out.size)).mono HBA.out.size)⟩
                    case measure => simp [intOf]; omega
        · have hle2 : ¬ ((a : Int) ≤ (nt : Int)) := by omega
          go_wp2_with fail
          go_ret
          exact ⟨rfl, HB3.out.trans (HBA.out.mono HB3.out.size)⟩
end Go.Proofs.Ytfgelkfnbohmmaa
