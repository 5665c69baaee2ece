/- bitstate.Run: what it answers. -/
import Derived.WalkMore
import Derived.Test.YtgkclnmmjedmkaaGreatP12
import Derived.Test.YtgkclnmmjedmkaaGreatP50
set_option maxRecDepth 1000000
set_option maxHeartbeats 16000000
namespace Go.Proofs.YtgkclnmmjedmkaaGreat
open Go.RowKit Mach
section
variable {p:Prg} {t:List Int} {at_:Nat}
theorem Ok.iter_ (hc:checkB p=true):∀ n s,Ok p t at_ s→Ok p t at_ (iter p t at_ n s)
 | 0,_,h=>h
 | n+1,s,h=>by rw [iter];exact Ok.iter_ hc n _ (Ok.step hc h)
theorem search_hit {anch:Bool} {n b:Nat} {met:List Bool} {steps:Nat} {s:MS} {w:Int} (h:s=final p t at_ (begin_ p b met steps)) (hf:s.fin=some w) :
  search p t at_ anch (n+1) b met steps=(some (s.caps,w),s.steps):=by
 rw [search];simp only [←h,hf]
theorem search_anch {n b:Nat} {met:List Bool} {steps:Nat} {s:MS} (h:s=final p t at_ (begin_ p b met steps)) (hf:s.fin=none) :
  search p t at_ true (n+1) b met steps=(none,s.steps):=by
 rw [search];simp only [←h,hf,if_true]
theorem search_next {n b:Nat} {met:List Bool} {steps:Nat} {s:MS} (h:s=final p t at_ (begin_ p b met steps)) (hf:s.fin=none) :
  search p t at_ false (n+1) b met steps=search p t at_ false n (b+1) s.met s.steps:=by
 rw [search];simp only [←h,hf,Bool.false_eq_true,if_false]
end
theorem caps_set (l:List Int) (i:Nat) (h:i < l.length):(List.replicate i (-1)++l.drop i).set i (-1)=List.replicate (i+1) (-1)++l.drop (i+1):=by
 rw [List.set_append_right _ _ (by simp),zyC,Nat.sub_self,List.drop_eq_getElem_cons h,zzD,List.replicate_succ',zyF]
 rfl
def capsOf (r:Int × Option (List Int × Int) × Nat):List Int:=r.2.1.elim [] (·.1)
def RunPost (B:Nat) (w:World) (r:Int × Option (List Int × Int) × Nat) (e:Ending) (w':World):Prop :=
 ∃ cv:Value,e=.returned (.tuple #[.agg #[.bool r.2.1.isSome,cv,.int .i64 (r.2.1.elim 0 (·.2)),.int .i64 (r.2.2:Int)],.int .i64 r.1]) ∧
  w'.ownsRow B 3 1 cv (capsOf r).length ((capsOf r).map (Value.int .i64))∧Below B w w'
theorem size_found:(Tryz.prog.info? 40).map (·.size)=some 4:=by kernel_rfl
theorem u64_info:(Tryz.prog.info? 85).map (fun i=>(i.zero,i.size,i.bytes))=some (some (.int .u64 0),1,8):=by kernel_rfl
theorem und_found:∃ d,Tryz.prog.underlying 40=some d∧isRow d=true:=⟨_,Tryz.underlying40,rfl⟩
theorem found_cells {w:World} {R:Nat} {t:TypeId} {x0 x1 x2 x3:Value} (h:Blk w R t [x0,x1,x2,x3]):(w.cell? ⟨R,0,none⟩=some x0∧w.cell? ⟨R,1,none⟩=some x1∧w.cell? ⟨R,2,none⟩=some x2∧w.cell? ⟨R,3,none⟩=some x3)∧w.frozen? ⟨R,0,none⟩=false∧w.frozen? ⟨R,1,none⟩=false∧w.frozen? ⟨R,2,none⟩=false∧w.frozen? ⟨R,3,none⟩=false∧R < w.heap.size :=
 ⟨⟨h.cell 0,h.cell 1,h.cell 2,h.cell 3⟩,h.frozen 0,h.frozen 1,h.frozen 2,h.frozen 3,h.lt⟩
theorem found4 {w:World} {R:Nat} {t:TypeId} {x0 x1 x2 x3:Value} (h:Blk w R t [x0,x1,x2,x3]) (u0 u1 u2 u3:Value):Blk ((((w.setCell ⟨R,0,none⟩ u0).setCell ⟨R,1,none⟩ u1).setCell ⟨R,2,none⟩ u2).setCell ⟨R,3,none⟩ u3) R t [u0,u1,u2,u3]:=(((h.set_ 0 u0).set_ 1 u1).set_ 2 u2).set_ 3 u3
theorem kept4r (w:World) (R:Nat) (u0 u1 u2 u3:Value):Kept w ((((w.setCell ⟨R,0,none⟩ u0).setCell ⟨R,1,none⟩ u1).setCell ⟨R,2,none⟩ u2).setCell ⟨R,3,none⟩ u3) [R,R,R,R]:=(((zyG (w:=w) ⟨R,0,none⟩ u0).trans (zyG ⟨R,1,none⟩ u1)).trans (zyG ⟨R,2,none⟩ u2)).trans (zyG ⟨R,3,none⟩ u3)
def BI (w:World) (b:Blocks) (A At:Option Addr) (n c nt ct k0 pl wl cl:Nat) (start:Int) (anch:Bool) (v0:Value) (p:Prg) (t:List Int) (SR:Option (List Int × Int) × Nat) (m:Nat) (a:Act) (w':World):Prop :=
 ∃ (bb:Nat) (V:Value) (ws:List Nat) (so:MS),PF b At nt ct k0 pl wl cl anch v0 (.int .i64 (bb:Int)) (.int .i64 (so.steps:Int)) a∧so.todo=[]∧so.caps.length=cl∧k0≤bb∧bb≤nt+1∧so.met.length=p.insts.length*places t k0∧so.steps+so.met.count false≤so.met.length∧SR=search p t k0 anch (t.length+1 - bb) bb so.met so.steps∧nt+1 - bb≤m∧Rn w b A n c start (cl:Int) V ws so w'
theorem begins_round (w:World) (b:Blocks) (A At:Option Addr) (n c nt ct k0 pl wl cl:Nat) (start:Int) (anch:Bool) (v0:Value) (p:Prg) (t:List Int) (SR:Option (List Int × Int) × Nat) (L:List InV) (hx:Cx w A At n c nt ct k0 pl wl cl p t L) (hpc:p.caps=(cl:Int)) (hps:p.start=start) {K:Act→World→Prop} {Q:Exit→Act→World→Prop}
  (h1:∀ (a:Act) (w':World) (steps:Nat) (vb:Value),SR=(none,steps)→PF b At nt ct k0 pl wl cl anch v0 vb (.int .i64 (steps:Int)) a→(∃ V ws s,Rn w b A n c start (cl:Int) V ws s w')→Q (.exit 1) a w')
  (h3:∀ (a:Act) (w':World) (cv:Value) (cs:List Int) (which:Int) (steps:Nat),SR=(some (cs,which),steps)→a.tmps.getD 8 undef=.pointer (some ⟨b.R,0,none⟩)→a.tmps.getD 9 undef=.int .i64 0→a.defers=[]→RFound w w' b.R true cv cs which (steps:Int)→Q .ret a w')
  (m:Nat) (hK:∀ (m':Nat) (a:Act) (w':World),m' < m→BI w b A At n c nt ct k0 pl wl cl start anch v0 p t SR m' a w'→K a w') (a:Act) (wr:World) (hI:BI w b A At n c nt ct k0 pl wl cl start anch v0 p t SR m a wr)
  : Code.wp Tryz.prog beginsBody (Exit.then K Q) a wr:=by
 obtain ⟨bb,V,ws,so,ha,hst,hcs,hkb,hbn,hml,hstp,hsr,hmm,hrn⟩:=hI
 unfold PF at ha;(iterate 224 obtain ⟨_,ha⟩:=ha);subst ha
 conv=>arg 2;whnf
 have HX:=zzA hx
 have HPC:=zzA hpc
 have HPS:=zzA hps
 have HTL:=zzA hx.tl
 have HE1:=zzA h1
 have HE3:=zzA h3
 have HKK:=zzA hK
 have HSB:=zzA hsr
 have HRN:=zzA hrn
 have HSTP:=zzA hstp
 have HML:=zzA hml
 have HCS:=zzA hcs
 have HST:=zzA hst
 obtain ⟨-,-,hd3,-,-,hd6⟩:=head_of hx.chk
 have HS0:=zzA (show 0≤start from by omega)
 have hcl1:cl≤1002:=by have:=hx.hcl;omega
 have hl:=hx.ntl
 have hk0:=hx.hk0
 have htc:=hx.rt.1
 have htc2:=hx.rt.cap
 clear hx hpc hps h1 h3 hK hsr hrn hstp hml hcs hst hd3 hd6
 by_cases hbb:bb≤nt
 ·have hlt:(bb:Int)≤(nt:Int):=by omega
  go_wp2_with fail
  refine wp_scope_straight ?_
  go_wp2_with fail
  go_loopw [73] (fun iv W=>∃ i:Nat,i≤cl∧iv=.int .i64 (i:Int)∧Rn w b A n c start (cl:Int) V ws { so with caps:=List.replicate i (-1)++so.caps.drop i } W) (fun iv _=>cl - (intOf iv).toNat)
  case atStart=>exact ⟨0,zzZ _,rfl,by simpa using HRN.out⟩
  case round =>
   obtain ⟨i,hi,rfl,hr⟩:=hrel
   by_cases hil:i < cl
   ·have hil2:(i:Int) < (cl:Int):=by omega
    obtain ⟨z,hz⟩:∃ z,((List.replicate i (-1)++so.caps.drop i).map (Value.int .i64))[i]?=some z:=⟨_,zzJ (by have:=HCS.out;simp;omega)⟩
    have q1:wr.cell? ⟨b.C,i,none⟩=some z:=(hr.capt.cell i).trans hz
    have q2:wr.frozen? ⟨b.C,i,none⟩=false:=hr.capt.frozen i
    have q3:b.C < wr.heap.size:=hr.capt.lt
    have HRI:=zzA hr
    clear hr hz
    go_wp2_with fail
    go_roundw
    case rel =>
     have h:=HRI.out.captured i (-1)
     simp only [caps_set so.caps i (by have:=HCS.out;omega)] at h
     exact ⟨i+1,by omega,by go_num,h⟩
    case measure=>simp [intOf];omega
   ·obtain rfl:cl=i:=by omega
    have hil2:¬((cl:Int) < (cl:Int)):=by omega
    have hr1:Rn w b A n c start (cl:Int) V ws { so with caps:=List.replicate cl (-1) } wr:=by
     have h:=hr
     rwa [List.drop_of_length_le (by rw [HCS.out];exact zzF _),zzY] at h
    have hstk:=hr1.stk
    simp only [] at hstk
    rw [HST.out] at hstk
    have hsn:((start.toNat:Nat):Int)=start:=by have:=HS0.out;omega
    have HPU:=zzA (push_any w.heap.size b.S V [] (.pair start.toNat bb) wr start (bb:Int) 0 0 (by simp [jobVals,hsn]) hstk hr1.lo.S (by simp))
    have p0:wr.cell? ⟨b.P,1,none⟩=some (.int .i64 start):=hr1.prog.cell 1
    have p1:b.P < wr.heap.size:=hr1.prog.lt
    have HR1:=zzA hr1
    clear hr hr1 hstk hsn
    go_wp2_with (go_at_call 35;refine HPU.out.mono ?_;rintro e w4 ⟨rfl,V2,hs2,hk2,_⟩;have HR2:=zzA ((HR1.out.stacked hk2 hs2).counted so.steps none);clear hs2 hk2;simp only [])
    go_step3
    go_wp2_with fail
    obtain ⟨s0,hs0⟩:∃ s0,s0=begin_ p bb so.met so.steps:=⟨_,rfl⟩
    have hrn2:Rn w b A n c start (cl:Int) V2 ws s0 w4:=by
     have h:=HR2.out
     rw [hs0]
     unfold begin_
     rw [HPS.out,HPC.out,zyB]
     exact h
    have hok0:Ok p t k0 s0:=by
     rw [hs0]
     exact Ok.start HX.out.chk (by rw [HTL.out];omega) ⟨hkb,by rw [HTL.out];exact hbb⟩ HML.out HSTP.out
    have hf0:s0.fin=none:=by rw [hs0];rfl
    have HRN2:=zzA hrn2
    have HOK0:=zzA hok0
    have HF0:=zzA hf0
    have HSS:=zzA hs0
    have hss:s0.steps=so.steps:=by rw [hs0];rfl
    rw [←hss]
    clear hrn2 hok0 hf0 hs0 hss HR2 HPU HR1 HRN p0 p1
    have HSX:=zzA (show t.length+1 - bb=(t.length+1 - (bb+1))+1 by rw [HTL.out];omega)
    refine pairs_loop w b A At n c nt ct k0 pl wl cl start anch v0 _ p t s0 L HX.out HPC.out _ w4 PF.of HOK0.out HF0.out ⟨_,_,HRN2.out⟩ ?_ ?_
    ·intro a5 w5 s hs hf ha hr
     unfold PF at ha;(iterate 224 obtain ⟨_,ha⟩:=ha);subst ha
     have HFN:=zzA (hs.trans (by rw [HSS.out]))
     have HF:=zzA hf
     have HR:=zzA hr
     have HOK:=zzA (show Ok p t k0 s from by rw [hs];unfold final;exact Ok.iter_ HX.out.chk _ _ HOK0.out)
     have HT:=zzA (show s.todo=[] from by
      have hh:halted s:=by rw [hs];unfold final;exact iter_halts p t k0 s0 _ (zzF _)
      rcases hh with h | h
      ·exact absurd hf h
      ·exact h)
     clear hs hf hr
     cases anch with
     | true =>
      simp only [if_true]
      go_wp2_with fail
      obtain ⟨V5,ws5,hr⟩:=HR.out
      exact HE1.out _ _ s.steps _ (by rw [HSB.out,HSX.out,search_anch HFN.out HF.out]) PF.of ⟨_,_,_,hr⟩
     | false =>
      simp only [Bool.false_eq_true,if_false]
      go_wp2_with fail
      simp only [Exit.noGoto]
      go_wp2_with fail
      obtain ⟨V5,ws5,hr⟩:=HR.out
      refine HKK.out (nt - bb) _ _ (by omega) ⟨bb+1,V5,ws5,s,PF.of,HT.out,by rw [HOK.out.caps,HPC.out,zyB],by omega,by omega,HOK.out.met,HOK.out.steps,?_,by omega,hr⟩
      rw [HSB.out,HSX.out,search_next HFN.out HF.out]
    ·intro a5 w5 cv s which hs hf h8 h9 hd hfd
     go_wp2_with fail
     exact HE3.out a5 w5 cv s.caps which s.steps (by rw [HSB.out,HSX.out,search_hit (hs.trans (by rw [HSS.out])) hf]) h8 h9 hd hfd
 ·obtain rfl:bb=nt+1:=by omega
  have hlt:¬(((nt+1:Nat):Int)≤(nt:Int)):=by omega
  go_wp2_with fail
  exact HE1.out _ _ so.steps _ (by rw [HSB.out,HTL.out,Nat.sub_self];rfl) PF.of ⟨_,_,_,HRN.out⟩
theorem begins_loop (w:World) (b:Blocks) (A At:Option Addr) (n c nt ct k0 pl wl cl:Nat) (start:Int) (anch:Bool) (v0:Value) (p:Prg) (t:List Int) (SR:Option (List Int × Int) × Nat) (L:List InV) (hx:Cx w A At n c nt ct k0 pl wl cl p t L) (hpc:p.caps=(cl:Int)) (hps:p.start=start) {Q:Exit→Act→World→Prop}
  (h1:∀ (a:Act) (w':World) (steps:Nat) (vb:Value),SR=(none,steps)→PF b At nt ct k0 pl wl cl anch v0 vb (.int .i64 (steps:Int)) a→(∃ V ws s,Rn w b A n c start (cl:Int) V ws s w')→Q (.exit 1) a w')
  (h3:∀ (a:Act) (w':World) (cv:Value) (cs:List Int) (which:Int) (steps:Nat),SR=(some (cs,which),steps)→a.tmps.getD 8 undef=.pointer (some ⟨b.R,0,none⟩)→a.tmps.getD 9 undef=.int .i64 0→a.defers=[]→RFound w w' b.R true cv cs which (steps:Int)→Q .ret a w')
  (m:Nat) (a:Act) (wr:World) (hI:BI w b A At n c nt ct k0 pl wl cl start anch v0 p t SR m a wr):Code.wp Tryz.prog (.loop beginsBody) Q a wr :=
 wp_loop_ghost (BI w b A At n c nt ct k0 pl wl cl start anch v0 p t SR) m hI (fun m a w' hI=>begins_round w b A At n c nt ct k0 pl wl cl start anch v0 p t SR L hx hpc hps h1 h3 m (fun m' a' w'' h h'=>⟨m',h,h'⟩) a w' hI)
theorem run_err (A At:Option Addr) (n c nt ct:Nat) (L:List InV) (t:List Int) (start caps at_:Int) (anch:Bool) (w:World) (hP:ReadsP w w.heap.size A n c L) (hT:Reads w w.heap.size 1 At nt ct (t.map (Value.int .i64))) (hne:(runR ⟨insL L,start,caps⟩ t at_ anch).1≠0)
  : Calls Tryz.prog 10 #[.agg #[.slice A n c,.int .i64 start,.int .i64 caps],.slice At nt ct,.int .i64 at_,.bool anch] w fun e w'=>RunPost w.heap.size w (runR ⟨insL L,start,caps⟩ t at_ anch) e w':=by
 have htl:t.length=nt:=by have:=hT.len;simpa using this
 have hnl:(insL L).length=n:=by rw [insL,zzP];exact hP.len
 obtain ⟨r,hr⟩:∃ r,r=runR ⟨insL L,start,caps⟩ t at_ anch:=⟨_,rfl⟩
 rw [←hr] at hne ⊢
 unfold runR at hr
 simp only [htl,hnl] at hr
 have HRR:=zzA hr
 have HNE:=zzA hne
 have hbW:Below w.heap.size w ((w.alloc (.cells #[.slice A n c,.int .i64 start,.int .i64 caps] 32)).alloc (.cells #[.bool false,.slice none 0 0,.int .i64 0,.int .i64 0] 40)):=((zzb _ _).alloc (zzF _) _).alloc (by simp) _
 have HPB:=zzA (show Blk ((w.alloc (.cells #[.slice A n c,.int .i64 start,.int .i64 caps] 32)).alloc (.cells #[.bool false,.slice none 0 0,.int .i64 0,.int .i64 0] 40)) w.heap.size 32 [.slice A n c,.int .i64 start,.int .i64 caps] from (zyI w _ [.slice A n c,.int .i64 start,.int .i64 caps]).alloc _)
 have HFB:=zzA (show Blk ((w.alloc (.cells #[.slice A n c,.int .i64 start,.int .i64 caps] 32)).alloc (.cells #[.bool false,.slice none 0 0,.int .i64 0,.int .i64 0] 40)) (w.heap.size+1) 40 [.bool false,.slice none 0 0,.int .i64 0,.int .i64 0] from by
  have:=zyI (w.alloc (.cells #[.slice A n c,.int .i64 start,.int .i64 caps] 32)) 40 [.bool false,.slice none 0 0,.int .i64 0,.int .i64 0]
  rwa [show (w.alloc (.cells #[.slice A n c,.int .i64 start,.int .i64 caps] 32)).heap.size=w.heap.size+1 from by simp] at this)
 have HBW:=zzA hbW
 have HCH:=zzA (check_any A n c L start caps ((w.alloc (.cells #[.slice A n c,.int .i64 start,.int .i64 caps] 32)).alloc (.cells #[.bool false,.slice none 0 0,.int .i64 0,.int .i64 0] 40)) ((hP.below hbW).more hbW.size))
 have hn2:checkB ⟨insL L,start,caps⟩=true→n≤20000:=fun h=>by have:=(head_of h).2.1;simp only [hnl] at this;omega
 have hnc:=hP.1.1
 have htc:=hT.1
 have htc2:=hT.cap
 have HN2:=zzA hn2
 obtain ⟨⟨r0,r1,r2,r3⟩,s0,s1,s2,s3,s4⟩:=found_cells HFB.out
 obtain ⟨a0,a1,a2⟩:=bc3 (HPB.out)
 have a3:=HPB.out.lt
 clear hbW hP hT htl hnl hr hne hn2
 go_enter Tryz.func10,Tryz.ntmps10
 go_wp2_with fail
 refine wp_scope_straight ?_
 generalize ((w.alloc (.cells #[.slice A n c,.int .i64 start,.int .i64 caps] 32)).alloc (.cells #[.bool false,.slice none 0 0,.int .i64 0,.int .i64 0] 40))=w1 at *
 by_cases h1:4194304 < nt
 ·have h1b:(4194304:Int) < (nt:Int):=by omega
  go_wp2_with fail
  obtain ⟨d,hu,hd⟩:=und_found
  (try simp only [Exit.inBlock,Exit.then,Exit.noGoto])
  refine zzm (results_cell_tmp_row rfl _ _ (w.heap.size+1) _ #[.bool false,.slice none 0 0,.int .i64 0,.int .i64 0] d rfl (found4 HFB.out _ _ _ _) hu hd size_found) rfl ?_
  rw [HRR.out,if_pos h1]
  exact ⟨.slice none 0 0,rfl,World.ownsRow_nil _ _ _ _,zyH HBW.out (kept4r _ _ _ _ _ _) (by intro g hg;simp at hg;omega) HBW.out.size⟩
 have h1b:¬((4194304:Int) < (nt:Int)):=by omega
 have HR2:=zzA (HRR.out.trans (if_neg h1))
 clear HRR
 cases hc:checkB ⟨insL L,start,caps⟩ with
 | false =>
  rw [show chkE ⟨insL L,start,caps⟩=90 from by unfold chkE;rw [hc];rfl] at HCH
  have HC:=zzA hc
  clear hc
  go_wp2_with (go_at_call 34;refine HCH.out.mono ?_;rintro e w2 ⟨rfl,hb1⟩;have HB1:=zzA (HBW.out.trans (hb1.mono HBW.out.size));have HF1:=zzA (HFB.out.below hb1 HFB.out.lt);have HP1:=zzA (HPB.out.below hb1 HPB.out.lt);clear r0 r1 r2 r3 s0 s1 s2 s3 s4 a0 a1 a2 a3;obtain ⟨⟨r0,r1,r2,r3⟩,s0,s1,s2,s3,s4⟩:=found_cells HF1.out;have p0:w2.cell? ⟨w.heap.size,0,none⟩=some (.slice A n c):=HP1.out.cell 0;have p1:w2.cell? ⟨w.heap.size,2,none⟩=some (.int .i64 caps):=HP1.out.cell 2;have p4:=HP1.out.lt;clear hb1;simp only [])
  obtain ⟨d,hu,hd⟩:=und_found
  (try simp only [Exit.inBlock,Exit.then,Exit.noGoto])
  refine zzm (results_cell_tmp_row rfl _ _ (w.heap.size+1) _ #[.bool false,.slice none 0 0,.int .i64 0,.int .i64 0] d rfl (found4 HF1.out _ _ _ _) hu hd size_found) rfl ?_
  rw [HR2.out,if_pos HC.out]
  exact ⟨.slice none 0 0,rfl,World.ownsRow_nil _ _ _ _,zyH HB1.out (kept4r _ _ _ _ _ _) (by intro g hg;simp at hg;omega) HB1.out.size⟩
 | true =>
  rw [show chkE ⟨insL L,start,caps⟩=0 from by unfold chkE;rw [hc];rfl] at HCH
  have hn:=HN2.out hc
  have HR3:=zzA (HR2.out.trans (if_neg (by rw [hc];decide)))
  clear HR2 hc HN2
  by_cases h2:at_ < 0∨(nt:Int) < at_
  ·have H2:=zzA h2
   rcases h2 with h2 | h2
   ·go_wp2_with (go_at_call 34;refine HCH.out.mono ?_;rintro e w2 ⟨rfl,hb1⟩;have HB1:=zzA (HBW.out.trans (hb1.mono HBW.out.size));have HF1:=zzA (HFB.out.below hb1 HFB.out.lt);have HP1:=zzA (HPB.out.below hb1 HPB.out.lt);clear r0 r1 r2 r3 s0 s1 s2 s3 s4 a0 a1 a2 a3;obtain ⟨⟨r0,r1,r2,r3⟩,s0,s1,s2,s3,s4⟩:=found_cells HF1.out;have p0:w2.cell? ⟨w.heap.size,0,none⟩=some (.slice A n c):=HP1.out.cell 0;have p1:w2.cell? ⟨w.heap.size,2,none⟩=some (.int .i64 caps):=HP1.out.cell 2;have p4:=HP1.out.lt;clear hb1;simp only [])
    obtain ⟨d,hu,hd⟩:=und_found
    (try simp only [Exit.inBlock,Exit.then,Exit.noGoto])
    refine zzm (results_cell_tmp_row rfl _ _ (w.heap.size+1) _ #[.bool false,.slice none 0 0,.int .i64 0,.int .i64 0] d rfl (found4 HF1.out _ _ _ _) hu hd size_found) rfl ?_
    rw [HR3.out,if_pos H2.out]
    exact ⟨.slice none 0 0,rfl,World.ownsRow_nil _ _ _ _,zyH HB1.out (kept4r _ _ _ _ _ _) (by intro g hg;simp at hg;omega) HB1.out.size⟩
   ·have h2b:¬at_ < 0:=by omega
    go_wp2_with (go_at_call 34;refine HCH.out.mono ?_;rintro e w2 ⟨rfl,hb1⟩;have HB1:=zzA (HBW.out.trans (hb1.mono HBW.out.size));have HF1:=zzA (HFB.out.below hb1 HFB.out.lt);have HP1:=zzA (HPB.out.below hb1 HPB.out.lt);clear r0 r1 r2 r3 s0 s1 s2 s3 s4 a0 a1 a2 a3;obtain ⟨⟨r0,r1,r2,r3⟩,s0,s1,s2,s3,s4⟩:=found_cells HF1.out;have p0:w2.cell? ⟨w.heap.size,0,none⟩=some (.slice A n c):=HP1.out.cell 0;have p1:w2.cell? ⟨w.heap.size,2,none⟩=some (.int .i64 caps):=HP1.out.cell 2;have p4:=HP1.out.lt;clear hb1;simp only [])
    obtain ⟨d,hu,hd⟩:=und_found
    (try simp only [Exit.inBlock,Exit.then,Exit.noGoto])
    refine zzm (results_cell_tmp_row rfl _ _ (w.heap.size+1) _ #[.bool false,.slice none 0 0,.int .i64 0,.int .i64 0] d rfl (found4 HF1.out _ _ _ _) hu hd size_found) rfl ?_
    rw [HR3.out,if_pos H2.out]
    exact ⟨.slice none 0 0,rfl,World.ownsRow_nil _ _ _ _,zyH HB1.out (kept4r _ _ _ _ _ _) (by intro g hg;simp at hg;omega) HB1.out.size⟩
  obtain ⟨k0,rfl⟩:∃ k0:Nat,at_=(k0:Int):=⟨at_.toNat,by omega⟩
  have h2b:¬((k0:Int) < 0):=by omega
  have h2c:¬((nt:Int) < (k0:Int)):=by omega
  obtain ⟨pl,hpl⟩:∃ pl:Nat,pl=nt - k0+1:=⟨_,rfl⟩
  have hple:(nt:Int) - (k0:Int)+1=(pl:Int):=by omega
  obtain ⟨N,hN⟩:∃ N:Nat,N=n*pl:=⟨_,rfl⟩
  have hNe:(n:Int)*(pl:Int)=(N:Int):=by rw [hN];norm_cast
  have HR4:=zzA (HR3.out.trans (if_neg h2))
  rw [zyB,←hpl,←hN] at HR4
  have hbig:16777216 < N:=by
   refine Classical.byContradiction fun h=>HNE.out ?_
   rw [HR4.out,if_neg h]
  have hbig2:(16777216:Int) < (N:Int):=by omega
  have hNb:N≤20000*4194305:=by rw [hN];exact Nat.mul_le_mul hn (by omega)
  have HBIG:=zzA hbig
  clear hN hpl h2 hbig HR3
  go_wp2_with (go_at_call 34;refine HCH.out.mono ?_;rintro e w2 ⟨rfl,hb1⟩;have HB1:=zzA (HBW.out.trans (hb1.mono HBW.out.size));have HF1:=zzA (HFB.out.below hb1 HFB.out.lt);have HP1:=zzA (HPB.out.below hb1 HPB.out.lt);clear r0 r1 r2 r3 s0 s1 s2 s3 s4 a0 a1 a2 a3;obtain ⟨⟨r0,r1,r2,r3⟩,s0,s1,s2,s3,s4⟩:=found_cells HF1.out;have p0:w2.cell? ⟨w.heap.size,0,none⟩=some (.slice A n c):=HP1.out.cell 0;have p1:w2.cell? ⟨w.heap.size,2,none⟩=some (.int .i64 caps):=HP1.out.cell 2;have p4:=HP1.out.lt;clear hb1;simp only [])
  obtain ⟨d,hu,hd⟩:=und_found
  (try simp only [Exit.inBlock,Exit.then,Exit.noGoto])
  refine zzm (results_cell_tmp_row rfl _ _ (w.heap.size+1) _ #[.bool false,.slice none 0 0,.int .i64 0,.int .i64 0] d rfl (found4 HF1.out _ _ _ _) hu hd size_found) rfl ?_
  rw [HR4.out,if_pos HBIG.out]
  exact ⟨.slice none 0 0,rfl,World.ownsRow_nil _ _ _ _,zyH HB1.out (kept4r _ _ _ _ _ _) (by intro g hg;simp at hg;omega) HB1.out.size⟩
theorem run_main (A At:Option Addr) (n c nt ct k0 cl:Nat) (L:List InV) (t:List Int) (start:Int) (anch:Bool) (w:World) (hP:ReadsP w w.heap.size A n c L) (hT:Reads w w.heap.size 1 At nt ct (t.map (Value.int .i64)))
  (hl:nt≤4194304) (p:Prg) (hp:p=⟨insL L,start,(cl:Int)⟩) (hc:checkB p=true) (hk0:k0≤nt) (hbig:n*(nt - k0+1)≤16777216)
  : Calls Tryz.prog 10 #[.agg #[.slice A n c,.int .i64 start,.int .i64 (cl:Int)],.slice At nt ct,.int .i64 (k0:Int),.bool anch] w fun e w'=>RunPost w.heap.size w (0,search p t k0 anch (t.length+1 - k0) k0 (List.replicate (p.insts.length*places t k0) false) 0) e w':=by
 obtain ⟨SR,hSR⟩:∃ SR,SR=search p t k0 anch (t.length+1 - k0) k0 (List.replicate (p.insts.length*places t k0) false) 0:=⟨_,rfl⟩
 rw [←hSR]
 have htl:t.length=nt:=by have:=hT.len;simpa using this
 have hnl:p.insts.length=n:=by rw [hp,insL,zzP];exact hP.len
 obtain ⟨pl,hpl⟩:∃ pl:Nat,pl=nt - k0+1:=⟨_,rfl⟩
 rw [←hpl] at hbig
 have hple:(nt:Int) - (k0:Int)+1=(pl:Int):=by omega
 obtain ⟨N,hN⟩:∃ N:Nat,N=n*pl:=⟨_,rfl⟩
 rw [←hN] at hbig
 have hNe:(n:Int)*(pl:Int)=(N:Int):=by rw [hN];norm_cast
 have hpp:places t k0=pl:=by unfold places;omega
 rw [hnl,hpp,←hN] at hSR
 have hat1:¬((k0:Int) < 0):=by omega
 have hat2:¬((nt:Int) < (k0:Int)):=by omega
 have hplb:pl≤4194305:=by omega
 obtain ⟨hd1,hd2,hd3,hd4,hd5,hd6⟩:=head_of hc
 have hnb:n≤20000:=by omega
 have hpc:p.caps=(cl:Int):=by rw [hp]
 have hps:p.start=start:=by rw [hp]
 have hcl2:2≤cl:=by omega
 have hcl1:cl≤1002:=by omega
 have hl2:¬((4194304:Int) < (nt:Int)):=by omega
 have hbig2:¬((16777216:Int) < (N:Int)):=by omega
 obtain ⟨wl,hwl⟩:∃ wl:Nat,wl=N / 64+1:=⟨_,rfl⟩
 have hwle:(N:Int) / 64+1=(wl:Int):=by omega
 obtain ⟨iU,hiU,hz0U,hz1U,hz2U⟩:=info_parts u64_info
 obtain ⟨iI,hiI,hz0I,hz1I,hz2I⟩:=info_parts int_info
 have hmkM:∀ u:World,(Instr.makeSlice 76 (.int .i64 (wl:Int)) (.int .i64 (wl:Int))).run Tryz.prog u =
   .ok (.slice (some ⟨u.heap.size,0,none⟩) wl wl) (u.alloc (.cells ((List.replicate wl 0).map fun x:Nat=>Value.int .u64 (x:Int)).toArray 85)):=fun u=>by
  have h:=run_make (P:=Tryz.prog) u 76 85 iU (.int .u64 0) Tryz.underlying76 hiU hz0U .i64 .i64 (wl:Int) (wl:Int) (by omega) (Int.le_refl _) (by rw [hz2U];omega) (by omega)
  have hmd:madeCells #[.int .u64 0] wl=((List.replicate wl 0).map fun x:Nat=>Value.int .u64 (x:Int)).toArray:=by
   apply Array.toList_inj.1
   rw [toList_madeCells_one];simp
  rw [zyB] at h
  rw [←hmd]
  simpa [hz1U,Value.cells] using h
 have hmkC:∀ u:World,(Instr.makeSlice 26 (.int .i64 (cl:Int)) (.int .i64 (cl:Int))).run Tryz.prog u =
   .ok (.slice (some ⟨u.heap.size,0,none⟩) cl cl) (u.alloc (.cells ((List.replicate cl (0:Int)).map (Value.int .i64)).toArray 3)):=fun u=>by
  have h:=run_make (P:=Tryz.prog) u 26 3 iI (.int .i64 0) Tryz.underlying26 hiI hz0I .i64 .i64 (cl:Int) (cl:Int) (by omega) (Int.le_refl _) (by rw [hz2I];omega) (by omega)
  have hmd:madeCells #[.int .i64 0] cl=((List.replicate cl (0:Int)).map (Value.int .i64)).toArray:=by
   apply Array.toList_inj.1
   rw [toList_madeCells_one];simp
  rw [zyB] at h
  rw [←hmd]
  simpa [hz1I,Value.cells] using h
 have HX:=zzA (show Cx w A At n c nt ct k0 pl wl cl p t L from
  ⟨hP,hT,by rw [hp],hc,hk0,hpp.symm,by rw [hnl,hpp,hwl,hN],by rw [hpc];simp,by rw [hnl,hpp,←hN];exact hbig,hl⟩)
 have hbW:Below w.heap.size w ((w.alloc (.cells #[.slice A n c,.int .i64 start,.int .i64 (cl:Int)] 32)).alloc (.cells #[.bool false,.slice none 0 0,.int .i64 0,.int .i64 0] 40)):=((zzb _ _).alloc (zzF _) _).alloc (by simp) _
 have HPB:=zzA (show Blk ((w.alloc (.cells #[.slice A n c,.int .i64 start,.int .i64 (cl:Int)] 32)).alloc (.cells #[.bool false,.slice none 0 0,.int .i64 0,.int .i64 0] 40)) w.heap.size 32 [.slice A n c,.int .i64 start,.int .i64 (cl:Int)] from (zyI w _ [.slice A n c,.int .i64 start,.int .i64 (cl:Int)]).alloc _)
 have HFB:=zzA (show Blk ((w.alloc (.cells #[.slice A n c,.int .i64 start,.int .i64 (cl:Int)] 32)).alloc (.cells #[.bool false,.slice none 0 0,.int .i64 0,.int .i64 0] 40)) (w.heap.size+1) 40 [.bool false,.slice none 0 0,.int .i64 0,.int .i64 0] from by
  have:=zyI (w.alloc (.cells #[.slice A n c,.int .i64 start,.int .i64 (cl:Int)] 32)) 40 [.bool false,.slice none 0 0,.int .i64 0,.int .i64 0]
  rwa [show (w.alloc (.cells #[.slice A n c,.int .i64 start,.int .i64 (cl:Int)] 32)).heap.size=w.heap.size+1 from by simp] at this)
 have HBW:=zzA hbW
 have HCH:=zzA (check_any A n c L start (cl:Int) ((w.alloc (.cells #[.slice A n c,.int .i64 start,.int .i64 (cl:Int)] 32)).alloc (.cells #[.bool false,.slice none 0 0,.int .i64 0,.int .i64 0] 40)) ((hP.below hbW).more hbW.size))
 rw [show chkE ⟨insL L,start,(cl:Int)⟩=0 from by unfold chkE;rw [←hp,hc];rfl] at HCH
 have HNL:=zzA (show p.insts.length*places t k0=N from by rw [hnl,hpp,hN])
 have HWL:=zzA hwl
 have HPC:=zzA hpc
 have HPS:=zzA hps
 have HS0:=zzA (show 0≤start from by omega)
 have HTL:=zzA htl
 have HSR:=zzA hSR
 have hnc:=hP.1.1
 have hcc:=hP.1.cap
 have htc:=hT.1
 have htc2:=hT.cap
 obtain ⟨⟨r0,r1,r2,r3⟩,s0,s1,s2,s3,s4⟩:=found_cells HFB.out
 obtain ⟨a0,a1,a2⟩:=bc3 (HPB.out)
 have a3:=HPB.out.lt
 clear hbW hP hT hc hN hpl hbig hwl hp hnl hpp hpc hps htl hSR hd1 hd2 hd3 hd4 hd5 hd6
 go_enter Tryz.func10,Tryz.ntmps10
 go_wp2_with fail
 refine wp_scope_straight ?_
 generalize ((w.alloc (.cells #[.slice A n c,.int .i64 start,.int .i64 (cl:Int)] 32)).alloc (.cells #[.bool false,.slice none 0 0,.int .i64 0,.int .i64 0] 40))=w1 at *
 go_wp2_with (go_at_call 34;refine HCH.out.mono ?_;rintro e w2 ⟨rfl,hb1⟩;have HB1:=zzA (HBW.out.trans (hb1.mono HBW.out.size));have HF1:=zzA (HFB.out.below hb1 HFB.out.lt);have HP1:=zzA (HPB.out.below hb1 HPB.out.lt);clear r0 r1 r2 r3 s0 s1 s2 s3 s4 a0 a1 a2 a3;obtain ⟨⟨r0,r1,r2,r3⟩,s0,s1,s2,s3,s4⟩:=found_cells HF1.out;have p0:w2.cell? ⟨w.heap.size,0,none⟩=some (.slice A n c):=HP1.out.cell 0;have p1:w2.cell? ⟨w.heap.size,2,none⟩=some (.int .i64 (cl:Int)):=HP1.out.cell 2;have p4:=HP1.out.lt;clear hb1;simp only [])
 go_step3
 go_wp2_with fail
 have z1:(w2.alloc (.cells (Array.replicate wl (.int .u64 0)) 85)).heap.size=w2.heap.size+1:=by simp
 have z2:((w2.alloc (.cells (Array.replicate wl (.int .u64 0)) 85)).alloc (.cells (Array.replicate cl (.int .i64 0)) 3)).heap.size=w2.heap.size+1+1:=by simp
 have hM:Blk (((w2.alloc (.cells (Array.replicate wl (.int .u64 0)) 85)).alloc (.cells (Array.replicate cl (.int .i64 0)) 3)).alloc (.cells #[.slice none 0 0,.int .i64 0] 79)) w2.heap.size 85 ((List.replicate wl 0).map fun x:Nat=>Value.int .u64 (x:Int)):=by
  rw [List.map_replicate]
  exact ((zyI w2 85 (List.replicate wl (.int .u64 0))).alloc _).alloc _
 have hC:Blk (((w2.alloc (.cells (Array.replicate wl (.int .u64 0)) 85)).alloc (.cells (Array.replicate cl (.int .i64 0)) 3)).alloc (.cells #[.slice none 0 0,.int .i64 0] 79)) (w2.heap.size+1) 3 ((List.replicate cl (0:Int)).map (Value.int .i64)):=by
  rw [List.map_replicate,←z1]
  exact (zyI (w2.alloc (.cells (Array.replicate wl (.int .u64 0)) 85)) 3 (List.replicate cl (.int .i64 0))).alloc _
 have hS:Blk (((w2.alloc (.cells (Array.replicate wl (.int .u64 0)) 85)).alloc (.cells (Array.replicate cl (.int .i64 0)) 3)).alloc (.cells #[.slice none 0 0,.int .i64 0] 79)) (w2.heap.size+1+1) 79 [.slice none 0 0,.int .i64 0]:=by
  rw [←z2]
  exact zyI _ 79 [.slice none 0 0,.int .i64 0]
 have hb3:Below w2.heap.size w2 (((w2.alloc (.cells (Array.replicate wl (.int .u64 0)) 85)).alloc (.cells (Array.replicate cl (.int .i64 0)) 3)).alloc (.cells #[.slice none 0 0,.int .i64 0] 79)):=(((zzb _ _).alloc (zzF _) _).alloc (by simp) _).alloc (by simp;omega) _
 have hsz:=HB1.out.size
 obtain ⟨b,hbe⟩:∃ b:Blocks,b=⟨w.heap.size,w.heap.size+1,w2.heap.size,w2.heap.size+1,w2.heap.size+1+1⟩:=⟨_,rfl⟩
 have hrn:Rn w b A n c start (cl:Int) (.slice none 0 0) (List.replicate wl 0) ⟨[],List.replicate N false,List.replicate cl 0,0,none⟩ (((w2.alloc (.cells (Array.replicate wl (.int .u64 0)) 85)).alloc (.cells (Array.replicate cl (.int .i64 0)) 3)).alloc (.cells #[.slice none 0 0,.int .i64 0] 79)):=by
  rw [hbe]
  exact ⟨HB1.out.trans (hb3.mono hsz),⟨zzF _,Nat.le_succ _,hsz,Nat.le_succ_of_le hsz,Nat.le_succ_of_le (Nat.le_succ_of_le hsz)⟩,HP1.out.below hb3 HP1.out.lt,HF1.out.below hb3 HF1.out.lt,hM,by rw [HWL.out];exact Bits.new N,hC,⟨⟨0,hS⟩,World.ownsRow_nil _ _ _ _⟩⟩
 clear hM hC hS hb3 z1 z2 p0 p1 p4 r0 r1 r2 r3 s0 s1 s2 s3 s4
 generalize (((w2.alloc (.cells (Array.replicate wl (.int .u64 0)) 85)).alloc (.cells (Array.replicate cl (.int .i64 0)) 3)).alloc (.cells #[.slice none 0 0,.int .i64 0] 79))=w3 at *
 have e5:w2.heap.size+1+1=b.S:=by rw [hbe]
 have e4:w2.heap.size+1=b.C:=by rw [hbe]
 have e3:w2.heap.size=b.M:=by rw [hbe]
 have e2:w.heap.size+1=b.R:=by rw [hbe]
 have e1:w.heap.size=b.P:=by rw [hbe]
 rw [e5,e4,e3,e2,e1]
 have E1:=zzA e1
 have E2:=zzA e2
 have HR:=zzA hrn
 clear e1 e2 e3 e4 e5 hrn hbe hsz hmkM hmkC HB1 HF1 HP1 HPB HFB HBW
 refine begins_loop w b A At n c nt ct k0 pl wl cl start anch _ p t SR L HX.out HPC.out HPS.out ?_ ?_ (nt+1 - k0) _ w3 ⟨k0,_,_,_,PF.of,rfl,by simp,zzF _,by omega,by simp [HNL.out],by simp [List.count_replicate],HSR.out,zzF _,HR.out⟩
 ·intro a5 w5 steps vb hs ha hr
  unfold PF at ha;(iterate 224 obtain ⟨_,ha⟩:=ha);subst ha
  obtain ⟨V5,ws5,s5,hr⟩:=hr
  have HRX:=zzA hr
  have HSX:=zzA hs
  have HFB:=zzA hr.found
  obtain ⟨⟨r0,r1,r2,r3⟩,f0,f1,f2,f3,f4⟩:=found_cells HFB.out
  clear hr hs
  go_wp2_with fail
  simp only [Exit.noGoto]
  go_step
  obtain ⟨d,hu,hd⟩:=und_found
  (try simp only [Exit.inBlock,Exit.then,Exit.noGoto])
  refine zzm (results_cell_tmp_row rfl _ _ b.R _ #[.bool false,.slice none 0 0,.int .i64 0,.int .i64 (steps:Int)] d rfl (found4 HRX.out.found _ _ _ _) hu hd size_found) rfl ?_
  rw [←E1.out,HSX.out]
  exact ⟨.slice none 0 0,rfl,World.ownsRow_nil _ _ _ _,zyH HRX.out.below (kept4r _ _ _ _ _ _) (by intro g hg;simp at hg;rw [hg];exact HRX.out.lo.R) HRX.out.below.size⟩
 ·intro a5 w5 cv cs which steps hs h8 h9 hd hfd
  simp only [Exit.inBlock,Exit.then,Exit.noGoto]
  go_step
  obtain ⟨d,hu,hd2⟩:=und_found
  have hres:=results_cell_tmp_row (P:=Tryz.prog) (fn:=Tryz.f10) rfl a5.tmps w5 b.R _ #[.bool true,cv,.int .i64 which,.int .i64 (steps:Int)] d h8 hfd.blk hu hd2 size_found
  rw [h9] at hres
  refine zzm hres hd ?_
  rw [hs]
  exact ⟨cv,rfl,hfd.own,hfd.below⟩
theorem run_any (A At:Option Addr) (n c nt ct:Nat) (L:List InV) (t:List Int) (start caps at_:Int) (anch:Bool) (w:World) (hP:ReadsP w w.heap.size A n c L) (hT:Reads w w.heap.size 1 At nt ct (t.map (Value.int .i64)))
  : Calls Tryz.prog 10 #[.agg #[.slice A n c,.int .i64 start,.int .i64 caps],.slice At nt ct,.int .i64 at_,.bool anch] w fun e w'=>RunPost w.heap.size w (runR ⟨insL L,start,caps⟩ t at_ anch) e w':=by
 by_cases hne:(runR ⟨insL L,start,caps⟩ t at_ anch).1≠0
 ·exact run_err A At n c nt ct L t start caps at_ anch w hP hT hne
 have htl:t.length=nt:=by have:=hT.len;simpa using this
 have hnl:(insL L).length=n:=by rw [insL,zzP];exact hP.len
 unfold runR at hne ⊢
 by_cases h1:4194304 < t.length
 ·rw [if_pos h1] at hne;exact absurd (by decide) hne
 rw [if_neg h1] at hne ⊢
 by_cases hc:checkB ⟨insL L,start,caps⟩=false
 ·rw [if_pos hc] at hne;exact absurd (by decide) hne
 rw [if_neg hc] at hne ⊢
 by_cases h2:at_ < 0∨(t.length:Int) < at_
 ·rw [if_pos h2] at hne;exact absurd (by decide) hne
 rw [if_neg h2] at hne ⊢
 by_cases h3:16777216 < (insL L).length*(t.length - at_.toNat+1)
 ·rw [if_pos h3] at hne;exact absurd (by decide) hne
 rw [if_neg h3]
 have hc2:checkB ⟨insL L,start,caps⟩=true:=by simpa using hc
 have hcb:2≤caps∧caps≤1002:=(head_of hc2).2.2.2.2
 obtain ⟨cl,rfl⟩:∃ cl:Nat,caps=(cl:Int):=⟨caps.toNat,by omega⟩
 obtain ⟨k0,rfl⟩:∃ k0:Nat,at_=(k0:Int):=⟨at_.toNat,by omega⟩
 rw [zyB] at h3 ⊢
 exact run_main A At n c nt ct k0 cl L t start anch w hP hT (by omega) _ rfl hc2 (by omega) (by rw [hnl,htl] at h3;omega)
def letterL (r:Nat):List InV:=[⟨⟨3,1,0,0,[]⟩,none,0,0⟩,⟨⟨1,2,0,0,[(97,97)]⟩,some ⟨r,0,none⟩,1,1⟩,⟨⟨3,3,0,1,[]⟩,none,0,0⟩,⟨⟨5,0,0,0,[]⟩,none,0,0⟩]
def letterI:List Ins:=[⟨3,1,0,0,[]⟩,⟨1,2,0,0,[(97,97)]⟩,⟨3,3,0,1,[]⟩,⟨5,0,0,0,[]⟩]
theorem letter_ins (r:Nat):insL (letterL r)=letterI:=rfl
theorem letter_run1:runR ⟨letterI,0,2⟩ [97,98,97] 1 false=(0,some ([2,3],0),6):=by decide +kernel
theorem letter_run2:runR ⟨letterI,0,2⟩ [97,98,97] 1 true=(0,none,2):=by decide +kernel
theorem letter_any (w:World) :
  Calls Tryz.prog 17 #[] w fun e w'=>e=.returned (.agg #[.slice (some ⟨w.heap.size+1+1,0,none⟩) 4 4,.int .i64 0,.int .i64 2])∧Below w.heap.size w w'∧ReadsP w' w'.heap.size (some ⟨w.heap.size+1+1,0,none⟩) 4 4 (letterL (w.heap.size+1)):=by
 go_enter Tryz.func17,Tryz.ntmps17
 go_wp2_with fail
 have h1:(w.alloc (.cells #[.slice (some ⟨w.heap.size+1+1,0,none⟩) 4 4,.int .i64 0,.int .i64 2] 32)).heap.size=w.heap.size+1:=by simp
 have h2:((w.alloc (.cells #[.slice (some ⟨w.heap.size+1+1,0,none⟩) 4 4,.int .i64 0,.int .i64 2] 32)).alloc (.cells #[.int .i64 97,.int .i64 97] 91)).heap.size=w.heap.size+1+1:=by simp
 have hP:Blk (((w.alloc (.cells #[.slice (some ⟨w.heap.size+1+1,0,none⟩) 4 4,.int .i64 0,.int .i64 2] 32)).alloc (.cells #[.int .i64 97,.int .i64 97] 91)).alloc (.cells #[.int .i64 3,.int .i64 1,.int .i64 0,.int .i64 0,.slice none 0 0,.int .i64 1,.int .i64 2,.int .i64 0,.int .i64 0,.slice (some ⟨w.heap.size+1,0,none⟩) 1 1,.int .i64 3,.int .i64 3,.int .i64 0,.int .i64 1,.slice none 0 0,.int .i64 5,.int .i64 0,.int .i64 0,.int .i64 0,.slice none 0 0] 62)) w.heap.size 32 [.slice (some ⟨w.heap.size+1+1,0,none⟩) 4 4,.int .i64 0,.int .i64 2]:=((zyI w _ [.slice (some ⟨w.heap.size+1+1,0,none⟩) 4 4,.int .i64 0,.int .i64 2]).alloc _).alloc _
 have hR:Blk (((w.alloc (.cells #[.slice (some ⟨w.heap.size+1+1,0,none⟩) 4 4,.int .i64 0,.int .i64 2] 32)).alloc (.cells #[.int .i64 97,.int .i64 97] 91)).alloc (.cells #[.int .i64 3,.int .i64 1,.int .i64 0,.int .i64 0,.slice none 0 0,.int .i64 1,.int .i64 2,.int .i64 0,.int .i64 0,.slice (some ⟨w.heap.size+1,0,none⟩) 1 1,.int .i64 3,.int .i64 3,.int .i64 0,.int .i64 1,.slice none 0 0,.int .i64 5,.int .i64 0,.int .i64 0,.int .i64 0,.slice none 0 0] 62)) (w.heap.size+1) 91 [.int .i64 97,.int .i64 97]:=by
  have:=(zyI (w.alloc (.cells #[.slice (some ⟨w.heap.size+1+1,0,none⟩) 4 4,.int .i64 0,.int .i64 2] 32)) 91 [.int .i64 97,.int .i64 97]).alloc (.cells #[.int .i64 3,.int .i64 1,.int .i64 0,.int .i64 0,.slice none 0 0,.int .i64 1,.int .i64 2,.int .i64 0,.int .i64 0,.slice (some ⟨w.heap.size+1,0,none⟩) 1 1,.int .i64 3,.int .i64 3,.int .i64 0,.int .i64 1,.slice none 0 0,.int .i64 5,.int .i64 0,.int .i64 0,.int .i64 0,.slice none 0 0] 62)
  rw [h1] at this
  exact this
 have hI:Blk (((w.alloc (.cells #[.slice (some ⟨w.heap.size+1+1,0,none⟩) 4 4,.int .i64 0,.int .i64 2] 32)).alloc (.cells #[.int .i64 97,.int .i64 97] 91)).alloc (.cells #[.int .i64 3,.int .i64 1,.int .i64 0,.int .i64 0,.slice none 0 0,.int .i64 1,.int .i64 2,.int .i64 0,.int .i64 0,.slice (some ⟨w.heap.size+1,0,none⟩) 1 1,.int .i64 3,.int .i64 3,.int .i64 0,.int .i64 1,.slice none 0 0,.int .i64 5,.int .i64 0,.int .i64 0,.int .i64 0,.slice none 0 0] 62)) (w.heap.size+1+1) 62 (insRow (letterL (w.heap.size+1))):=by
  have:=zyI ((w.alloc (.cells #[.slice (some ⟨w.heap.size+1+1,0,none⟩) 4 4,.int .i64 0,.int .i64 2] 32)).alloc (.cells #[.int .i64 97,.int .i64 97] 91)) 62 (insRow (letterL (w.heap.size+1)))
  rw [h2] at this
  exact this
 have hb:Below w.heap.size w (((w.alloc (.cells #[.slice (some ⟨w.heap.size+1+1,0,none⟩) 4 4,.int .i64 0,.int .i64 2] 32)).alloc (.cells #[.int .i64 97,.int .i64 97] 91)).alloc (.cells #[.int .i64 3,.int .i64 1,.int .i64 0,.int .i64 0,.slice none 0 0,.int .i64 1,.int .i64 2,.int .i64 0,.int .i64 0,.slice (some ⟨w.heap.size+1,0,none⟩) 1 1,.int .i64 3,.int .i64 3,.int .i64 0,.int .i64 1,.slice none 0 0,.int .i64 5,.int .i64 0,.int .i64 0,.int .i64 0,.slice none 0 0] 62)):=(((zzb _ _).alloc (zzF _) _).alloc (by simp) _).alloc (by simp;omega) _
 obtain ⟨d,hu,hd⟩:=und_prog
 refine zzm (results_cell_row rfl _ _ w.heap.size _ #[.slice (some ⟨w.heap.size+1+1,0,none⟩) 4 4,.int .i64 0,.int .i64 2] d rfl hP hu hd size_prog) rfl ?_
 have hri:=hI.reads (size:=5) (n:=4) (c:=4) (by omega) (by omega) (by simp [insRow_length,letterL])
 rw [List.take_of_length_le (by simp [insRow_length,letterL])] at hri
 have hrr:=hR.reads (size:=2) (n:=1) (c:=1) (by omega) (by omega) (by simp)
 refine ⟨rfl,hb,hri,fun v hv=>?_⟩
 simp only [letterL,zzN,zyA,or_false] at hv
 rcases hv with rfl | rfl | rfl | rfl
 ·exact ⟨Reads.none_,fun _=>rfl⟩
 ·exact ⟨hrr,fun h=>by cases h⟩
 ·exact ⟨Reads.none_,fun _=>rfl⟩
 ·exact ⟨Reads.none_,fun _=>rfl⟩
theorem letter_ex (w:World) :
  Calls Tryz.prog 17 #[] w fun e w'=>∃ g r,e=.returned (.agg #[.slice (some ⟨g,0,none⟩) 4 4,.int .i64 0,.int .i64 2])∧Below w.heap.size w w'∧ReadsP w' w'.heap.size (some ⟨g,0,none⟩) 4 4 (letterL r) :=
 (letter_any w).mono fun _ _ ⟨h1,h2,h3⟩=>⟨_,_,h1,h2,h3⟩
theorem awake12_any (w:World) :
  Calls Tryz.prog 7 #[] w fun e w'=>e=.returned (.bool true)∧Below w.heap.size w w':=by
 have hT:Blk (w.alloc (.cells #[.int .i64 97,.int .i64 98,.int .i64 97] 3)) w.heap.size 3 (([97,98,97]:List Int).map (Value.int .i64)):=zyI w _ _
 have hb0:Below w.heap.size w (w.alloc (.cells #[.int .i64 97,.int .i64 98,.int .i64 97] 3)):=(zzb _ _).alloc (zzF _) _
 have HT:=zzA hT
 have HB0:=zzA hb0
 clear hT hb0
 have HL:=zzA letter_ex
 have HT2:=zzA (fun (u:World) (hb:Below (w.alloc (.cells #[.int .i64 97,.int .i64 98,.int .i64 97] 3)).heap.size (w.alloc (.cells #[.int .i64 97,.int .i64 98,.int .i64 97] 3)) u)=>show Reads u u.heap.size 1 (some ⟨w.heap.size,0,none⟩) 3 3 (([97,98,97]:List Int).map (Value.int .i64)) from ((HT.out.below hb HT.out.lt).reads (size:=1) (n:=3) (c:=3) (by omega) (by omega) (by simp)))
 go_enter Tryz.func7,Tryz.ntmps7
 go_wp2_with (first
  | (go_at_call 10
     have hc:=run_any _ _ 4 4 3 3 _ [97,98,97] 0 2 1 true _ HR5.out (HT2.out _ HBW5.out)
     rw [letter_ins,letter_run2] at hc
     refine hc.mono ?_
     rintro e w6 ⟨cv6,rfl,ho6,hb6⟩
     have HBW6:=zzA (HBW5.out.trans (hb6.mono HBW5.out.size))
     have HF6:=zzA ((HF5.out.below hb6 HF5.out.lt))
     have HO6:=zzA (own_below HO5.out hb6)
     obtain ⟨A6,n6,c6,hcv⟩:∃ A n c,cv6=.slice A n c:=by obtain ⟨A,c,h⟩:=own_shape ho6;exact ⟨_,_,_,h⟩
     subst hcv
     have f0:w6.cell? ⟨w3.heap.size,0,none⟩=some (.bool true):=HF6.out.cell 0
     have f1:w6.cell? ⟨w3.heap.size,1,none⟩=some (.slice (some ⟨g3,0,none⟩) 2 c3):=HF6.out.cell 1
     have f3:w6.cell? ⟨w3.heap.size,3,none⟩=some (.int .i64 6):=HF6.out.cell 3
     have f4:=HF6.out.lt
     have o0:w6.cell? ⟨g3,0,none⟩=some (.int .i64 2):=HO6.out.cellAt 0 (by omega)
     have o1:w6.cell? ⟨g3,1,none⟩=some (.int .i64 3):=HO6.out.cellAt 1 (by omega)
     have o2:g3 < w6.heap.size:=(HO6.out.lt g3 rfl).2
     simp only [Option.isSome_none,Option.elim_none])
  | (go_at_call 17
     have HFx:=HF3
     refine (HL.out _).mono ?_
     rintro e w5 ⟨gg5,rr5,rfl,hb5,hr5⟩
     have HBW5:=zzA ((HBW3.out.trans (((zzb _ _).alloc (zzF _) _).mono HBW3.out.size)).trans (hb5.mono (by have:=HBW3.out.size;simp at this ⊢;omega)))
     have HF5:=zzA (HF3.out.below hb5 HF3.out.lt)
     have HO5:=zzA (own_below (own_below HO3.out ((zzb _ _).alloc (zzF _) _)) hb5)
     have HR5:=zzA hr5
     clear hb5 hr5
     simp only [])
  | (go_at_call 10
     have hc:=run_any _ _ 4 4 3 3 _ [97,98,97] 0 2 1 false _ HR2.out (HT2.out _ HBW2.out)
     rw [letter_ins,letter_run1] at hc
     refine hc.mono ?_
     rintro e w3 ⟨cv3,rfl,ho3,hb3⟩
     have ho3:w3.ownsRow w2.heap.size 3 1 cv3 2 [.int .i64 2,.int .i64 3]:=ho3
     obtain ⟨A3,c3,hcv⟩:=own_shape ho3
     subst hcv
     obtain ⟨g3,hA3,_,_,_⟩:=own_form ho3 (by omega)
     subst hA3
     have HO3:=zzA ho3
     have HBW3:=zzA (HBW2.out.trans (hb3.mono HBW2.out.size))
     have HF3:=zzA (zyI w3 40 [.bool true,.slice (some ⟨g3,0,none⟩) 2 c3,.int .i64 0,.int .i64 6])
     clear hb3 ho3
     simp only [Option.isSome_some,Option.elim_some])
  | (go_at_call 17
     refine (HL.out _).mono ?_
     rintro e w2 ⟨gg2,rr2,rfl,hb2,hr2⟩
     have HBW2:=zzA hb2
     have HR2:=zzA hr2
     clear hb2 hr2
     simp only []))
 go_ret
 exact ⟨rfl,(HB0.out.trans (HBW6.out.mono HB0.out.size)).alloc (by have h1:=HB0.out.size;have h2:=HBW6.out.size;omega) _⟩
end Go.Proofs.YtgkclnmmjedmkaaGreat
