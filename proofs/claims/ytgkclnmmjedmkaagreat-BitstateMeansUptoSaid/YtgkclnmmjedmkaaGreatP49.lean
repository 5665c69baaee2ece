/- bitstate.Run: a round over a pair that is met now. -/
import Derived.Deep.RegionWith
import Derived.StillTailTactics
import Derived.Test.YtgkclnmmjedmkaaGreatP48
set_option maxRecDepth 1000000
set_option maxHeartbeats 4000000
namespace Go.Proofs.YtgkclnmmjedmkaaGreat
open Go.RowKit Mach
theorem notin_push {S B g:Nat} {V V2:Value} (h:g ∉ (S :: V.ownBlock.toList)) (ho:V2.ownBlock=V.ownBlock∨∃ k,B≤k∧V2.ownBlock=some k) (hg:g < B):g ∉ (S :: V2.ownBlock.toList):=by
 rcases ho with e | ⟨k,hk,e⟩
 ·rw [e];exact h
 ·rw [e]
  intro hm
  simp only [Option.toList_some,zzN,zyA,or_false] at hm
  rcases hm with rfl | rfl
  ·exact h zzH
  ·omega
theorem round_cap {w0:World} {b:Blocks} {A At:Option Addr} {n c nt ct k0 pl wl cl:Nat} {start caps:Int} {V:Value} {ws:List Nat} {s:MS} {w:World} {anch:Bool} {v0 vb:Value} {L:List InV} {t:List Int} {i k q:Nat} {r:List Job} {v:InV} {K:Act→World→Prop} {Q:Exit→Act→World→Prop} {a:Act} (ha:PF b At nt ct k0 pl wl cl anch v0 vb (.int .i64 (s.steps:Int)) a)
  (hh:Pq w0 b A n c k0 pl wl start caps V ws s w L i k q r v)
  (hop:v.I.op=3) (hix:0≤v.I.x) (harg0:0≤v.I.arg) (harg:v.I.arg.toNat < s.caps.length) (hcl:cl=s.caps.length) (hcap:cl≤1002)
  (hK:∀ (a:Act) (w':World),PF b At nt ct k0 pl wl cl anch v0 vb (.int .i64 ((s.steps:Int)+1)) a→(∃ V' ws',Rn w0 b A n c start caps V' ws' (eff t v.I k { s with todo:=r,met:=s.met.set q true,steps:=s.steps+1 }) w')→K a w')
  : Code.wp Tryz.prog pairsBody (Exit.then K Q) a w:=by
 obtain ⟨h,ht,hroom,hi,hk,hk0,hpl,hq,hq2,hq3,hst,hwl,hm,hP,hv⟩:=hh
 have H:=zzA h
 have HP:=zzA (pop_any w0.heap.size b.S V r (.pair i k) w (i:Int) (k:Int) 0 0 rfl (ht ▸ h.stk) (by omega))
 have HK:=zzA hK
 obtain ⟨x,y,HX,hy,hmt,hms,HXC,hql,hq6,hm1,hm2,hm3⟩:=pair_facts h hk0 hq hq2 hq3 hwl hm
 have HQ:=zzA hq2
 have HRP:=zzA hP
 have hin:i < n:=by have:=hP.len;have:=(zzK.1 hv).1;omega
 have HV:=zzA hv
 obtain ⟨ab,ao,rfl,hab⟩:=hP.at_ (by omega)
 obtain ⟨⟨iop,ix,iy,iarg,irng⟩,iA,inn,ic⟩:=v
 obtain rfl:iop=3:=hop
 simp only [] at hix harg0 harg
 obtain ⟨ca,rfl⟩:∃ ca:Nat,iarg=(ca:Int):=⟨iarg.toNat,by omega⟩
 rw [zyB] at harg
 obtain ⟨z,hz⟩:∃ z,s.caps[ca]?=some z:=⟨_,zzJ harg⟩
 have hcal:(ca:Int) < (cl:Int):=by omega
 have hcz:(s.caps.map (Value.int .i64))[ca]?=some (.int .i64 z):=by rw [zza,hz];rfl
 have HZ:=zzA hz
 have HCZ:=zzA hcz
 clear hz hcz harg hcl harg0
 clear h ht hK hq hm hwl hq2 hP hv
 unfold PF at ha
 iterate 224 obtain ⟨_,ha⟩:=ha
 subst ha
 conv=>arg 2;whnf
 go_wp2_with (go_at_call 36;refine HP.out.mono ?_;rintro e w1 ⟨rfl,V1,hs1,hk1,_⟩;have H1:=zzA (H.out.stacked hk1 hs1);have q1:w1.cell? ⟨b.M,q / 64,none⟩=some (.int .u64 (x:Int)):=(H1.out.met.cell (q / 64)).trans HXC.out;have q2:w1.frozen? ⟨b.M,q / 64,none⟩=false:=H1.out.met.frozen (q / 64);have q3:b.M < w1.heap.size:=H1.out.met.lt;clear hs1 hk1;simp only [])
 go_region
 clear hms
 generalize hw2:((w1.setCell ⟨b.M,q / 64,none⟩ (.int .u64 ((x ||| 2 ^ (q % 64):Nat):Int))).alloc (.cells #[.int .i64 (i:Int),.int .i64 (k:Int),.int .i64 0,.int .i64 0] 82)).drew=w2
 obtain ⟨hn,HJB,HRP2,HNOT,p0,p1,j0,j1,j4,hab2,i0,i1,i2,i3,i4⟩:=pre_facts H1.out HQ.out HX.out HRP.out hab HV.out hw2
 clear q1 q2 q3 hw2
 have HPU:=zzA (fun u (hb:Below w2.heap.size w2 u)=>push_any w0.heap.size b.S V1 r (.back ca z) u 0 0 ((ca:Int)+1) z (by simp [jobVals]) (hn.out.later hb).stk hn.out.lo.S (by omega))
 have HPU2:=zzA (fun V2 u (hb:Stk u w0.heap.size b.S V2 (.back ca z :: r))=>push_any w0.heap.size b.S V2 (.back ca z :: r) (.pair ix.toNat k) u ix (k:Int) 0 0 (by simp [jobVals];omega) hb hn.out.lo.S (by simp;omega))
 clear hmt
 have hbi:Below w2.heap.size w2 (w2.alloc (.cells #[.int .i64 3,.int .i64 ix,.int .i64 iy,.int .i64 (ca:Int),.slice iA inn ic] 62)).drew:=bdrewN ((zzb _ _).alloc (zzF _) _) 1
 have HNEW:=zzA (zyI w2 62 [.int .i64 3,.int .i64 ix,.int .i64 iy,.int .i64 (ca:Int),.slice iA inn ic])
 go_wp2_with fail
 have e1:(w2.alloc (.cells #[.int .i64 3,.int .i64 ix,.int .i64 iy,.int .i64 (ca:Int),.slice iA inn ic] 62)).cell? ⟨b.C,ca,none⟩=some (.int .i64 z):=((hn.out.capt.alloc _).cell ca).trans HCZ.out
 have e2:(w2.alloc (.cells #[.int .i64 3,.int .i64 ix,.int .i64 iy,.int .i64 (ca:Int),.slice iA inn ic] 62)).cell? ⟨w2.heap.size,3,none⟩=some (.int .i64 (ca:Int)):=HNEW.out.cell 3
 have e3:(w2.alloc (.cells #[.int .i64 3,.int .i64 ix,.int .i64 iy,.int .i64 (ca:Int),.slice iA inn ic] 62)).cell? ⟨w2.heap.size,1,none⟩=some (.int .i64 ix):=HNEW.out.cell 1
 have e4:(w2.alloc (.cells #[.int .i64 3,.int .i64 ix,.int .i64 iy,.int .i64 (ca:Int),.slice iA inn ic] 62)).cell? ⟨w1.heap.size,1,none⟩=some (.int .i64 (k:Int)):=(HJB.out.alloc _).cell 1
 have HNEW2:=zzA HNEW.out.drew
 have HJB2:=zzA (HJB.out.alloc (.cells #[.int .i64 3,.int .i64 ix,.int .i64 iy,.int .i64 (ca:Int),.slice iA inn ic] 62)).drew
 have HL2:=zzA HNEW2.out.lt
 have HL1:=zzA HJB2.out.lt
 clear HNEW
 generalize w2.alloc (.cells #[.int .i64 3,.int .i64 ix,.int .i64 iy,.int .i64 (ca:Int),.slice iA inn ic] 62)=w2a at *
 refine wp_region_still_tail 9 (by kernel_rfl) (by kernel_rfl) ?_
 simp only [List.take_succ_cons,List.take_zero,List.drop_succ_cons,List.drop_zero]
 change wpStill _ _ w2a.drew _ _ _
 repeat still_step
 refine wpStill_nil ?_
 change wpList _ _ _ _ _ w2a.drew
 go_wp2_with (first | (go_at_call 35;refine (HPU2.out V2 _ H3.out.stk).mono ?_;rintro e w4 ⟨rfl,V3,hs3,hk3,_⟩;have H4:=zzA (H3.out.stacked hk3 hs3);have c1:w4.cell? ⟨w1.heap.size,1,none⟩=some (.int .i64 (k:Int)):=(HB1.out.kept hk3 (HN3.out _ (zzF _) HL1.out)).cell 1;have c2:w4.cell? ⟨w2.heap.size,3,none⟩=some (.int .i64 (ca:Int)):=(HB2.out.kept hk3 (HN3.out _ (zzo j4) HL2.out)).cell 3;have c3:w4.cell? ⟨b.C,ca,none⟩=some (.int .i64 z):=(H4.out.capt.cell ca).trans HCZ.out;have c4:w4.frozen? ⟨b.C,ca,none⟩=false:=H4.out.capt.frozen ca;have c5:b.C < w4.heap.size:=H4.out.capt.lt;clear hs3 hk3;simp only []) | (go_at_call 35;refine (HPU.out _ hbi).mono ?_;rintro e w3 ⟨rfl,V2,hs2,hk2,ho2⟩;have HN3:=zzA (show ∀ g,w1.heap.size≤g→g < w2a.drew.heap.size→g ∉ (b.S :: V2.ownBlock.toList) from fun g h1 h2=>notin_push (HNOT.out g h1) ho2 h2);have H3:=zzA ((hn.out.later hbi).stacked hk2 hs2);have B1:=HJB2.out.kept hk2 (HNOT.out _ (zzF _));have B2:=HNEW2.out.kept hk2 (HNOT.out _ (zzo j4));have d1:w3.cell? ⟨w1.heap.size,1,none⟩=some (.int .i64 (k:Int)):=B1.cell 1;have d2:w3.cell? ⟨w2.heap.size,1,none⟩=some (.int .i64 ix):=B2.cell 1;have HB1:=zzA B1;have HB2:=zzA B2;clear hs2 hk2 B1 B2 ho2;simp only []))
 refine HK.out _ _ PF.of ?_
 have hzz:z=s.caps.getD ca 0:=by rw [zzf,HZ.out];rfl
 subst hzz
 exact ⟨_,_,((H4.out.captured ca (k:Int)).counted (s.steps+1) s.fin)⟩
theorem still_open {P:Program} {ops:Array Oper} {w:World} {Q:Act→Prop} {l:List Oper} {a:Act} (h:∀ Qc:Act→Prop,(∀ a,Q a→Qc a)→wpStill P ops w Qc l a):wpStill P ops w Q l a:=h Q (fun _ h=>h)
theorem round_rune_out {w0:World} {b:Blocks} {A At:Option Addr} {n c nt ct k0 pl wl cl:Nat} {start caps:Int} {V:Value} {ws:List Nat} {s:MS} {w:World} {anch:Bool} {v0 vb:Value} {L:List InV} {t:List Int} {i k q:Nat} {r:List Job} {v:InV} {K:Act→World→Prop} {Q:Exit→Act→World→Prop} {a:Act} (ha:PF b At nt ct k0 pl wl cl anch v0 vb (.int .i64 (s.steps:Int)) a)
  (hh:Pq w0 b A n c k0 pl wl start caps V ws s w L i k q r v)
  (hop:v.I.op=1) (hkn:nt≤k) (htl:t.length=nt)
  (hK:∀ (a:Act) (w':World),PF b At nt ct k0 pl wl cl anch v0 vb (.int .i64 ((s.steps:Int)+1)) a→(∃ V' ws',Rn w0 b A n c start caps V' ws' (eff t v.I k { s with todo:=r,met:=s.met.set q true,steps:=s.steps+1 }) w')→K a w')
  : Code.wp Tryz.prog pairsBody (Exit.then K Q) a w:=by
 obtain ⟨h,ht,hroom,hi,hk,hk0,hpl,hq,hq2,hq3,hst,hwl,hm,hP,hv⟩:=hh
 have H:=zzA h
 have HP:=zzA (pop_any w0.heap.size b.S V r (.pair i k) w (i:Int) (k:Int) 0 0 rfl (ht ▸ h.stk) (by omega))
 have HK:=zzA hK
 obtain ⟨x,y,HX,hy,hmt,hms,HXC,hql,hq6,hm1,hm2,hm3⟩:=pair_facts h hk0 hq hq2 hq3 hwl hm
 have HQ:=zzA hq2
 have HRP:=zzA hP
 have hin:i < n:=by have:=hP.len;have:=(zzK.1 hv).1;omega
 have HV:=zzA hv
 obtain ⟨ab,ao,rfl,hab⟩:=hP.at_ (by omega)
 obtain ⟨⟨iop,ix,iy,iarg,irng⟩,iA,inn,ic⟩:=v
 obtain rfl:iop=1:=hop
 have HTL:=zzA htl
 have hkd:¬((k:Int) < (nt:Int)):=by omega
 have hkd4:decide (k < nt)=false:=decide_eq_false (by omega)
 have HKD2:=zzA (show decide ((k:Int) < (nt:Int))=false from decide_eq_false hkd)
 have HKD4:=zzA hkd4
 clear htl hkd hkd4
 clear h ht hK hq hm hwl hq2 hP hv
 unfold PF at ha
 iterate 224 obtain ⟨_,ha⟩:=ha
 subst ha
 conv=>arg 2;whnf
 go_wp2_with (go_at_call 36;refine HP.out.mono ?_;rintro e w1 ⟨rfl,V1,hs1,hk1,_⟩;have H1:=zzA (H.out.stacked hk1 hs1);have q1:w1.cell? ⟨b.M,q / 64,none⟩=some (.int .u64 (x:Int)):=(H1.out.met.cell (q / 64)).trans HXC.out;have q2:w1.frozen? ⟨b.M,q / 64,none⟩=false:=H1.out.met.frozen (q / 64);have q3:b.M < w1.heap.size:=H1.out.met.lt;clear hs1 hk1;simp only [])
 go_region
 clear hms
 generalize hw2:((w1.setCell ⟨b.M,q / 64,none⟩ (.int .u64 ((x ||| 2 ^ (q % 64):Nat):Int))).alloc (.cells #[.int .i64 (i:Int),.int .i64 (k:Int),.int .i64 0,.int .i64 0] 82)).drew=w2
 obtain ⟨hn,HJB,HRP2,HNOT,p0,p1,j0,j1,j4,hab2,i0,i1,i2,i3,i4⟩:=pre_facts H1.out HQ.out HX.out HRP.out hab HV.out hw2
 clear q1 q2 q3 hw2
 clear hmt
 have HNEW:=zzA (zyI w2 62 [.int .i64 1,.int .i64 ix,.int .i64 iy,.int .i64 iarg,.slice iA inn ic])
 have hbi:Below w2.heap.size w2 (w2.alloc (.cells #[.int .i64 1,.int .i64 ix,.int .i64 iy,.int .i64 iarg,.slice iA inn ic] 62)):=(zzb _ _).alloc (zzF _) _
 go_wp2_with fail
 have e4:(w2.alloc (.cells #[.int .i64 1,.int .i64 ix,.int .i64 iy,.int .i64 iarg,.slice iA inn ic] 62)).cell? ⟨w1.heap.size,1,none⟩=some (.int .i64 (k:Int)):=(HJB.out.alloc _).cell 1
 clear HNEW
 generalize w2.alloc (.cells #[.int .i64 1,.int .i64 ix,.int .i64 iy,.int .i64 iarg,.slice iA inn ic] 62)=w2a at *
 have hkd2:=HKD2.out
 have hkd4:=HKD4.out
 go_quiet (fail)
 go_wp2_with fail
 refine HK.out _ _ PF.of ?_
 have:=(((hn.out.later hbi).drewN nq).counted (s.steps+1) s.fin)
 have he:eff t ⟨1,ix,iy,iarg,irng⟩ k { s with todo:=r,met:=s.met.set q true,steps:=s.steps+1 }={ s with todo:=r,met:=s.met.set q true,steps:=s.steps+1 }:=by
  unfold eff
  rw [if_pos rfl,if_neg]
  rintro ⟨h1,_⟩
  have:=HTL.out
  omega
 rw [he]
 exact ⟨_,_,this⟩
theorem round_rune {w0:World} {b:Blocks} {A At:Option Addr} {n c nt ct k0 pl wl cl:Nat} {start caps:Int} {V:Value} {ws:List Nat} {s:MS} {w:World} {anch:Bool} {v0 vb:Value} {L:List InV} {t:List Int} {i k q:Nat} {r:List Job} {v:InV} {K:Act→World→Prop} {Q:Exit→Act→World→Prop} {a:Act} (ha:PF b At nt ct k0 pl wl cl anch v0 vb (.int .i64 (s.steps:Int)) a)
  (hh:Pq w0 b A n c k0 pl wl start caps V ws s w L i k q r v)
  (hT:Reads w0 w0.heap.size 1 At nt ct (t.map (Value.int .i64))) (htl:t.length=nt)
  (hop:v.I.op=1) (hix:0≤v.I.x) (hkn:k < nt) (hright:rightB v.I.rng=true)
  (hK:∀ (a:Act) (w':World),PF b At nt ct k0 pl wl cl anch v0 vb (.int .i64 ((s.steps:Int)+1)) a→(∃ V' ws',Rn w0 b A n c start caps V' ws' (eff t v.I k { s with todo:=r,met:=s.met.set q true,steps:=s.steps+1 }) w')→K a w')
  : Code.wp Tryz.prog pairsBody (Exit.then K Q) a w:=by
 obtain ⟨h,ht,hroom,hi,hk,hk0,hpl,hq,hq2,hq3,hst,hwl,hm,hP,hv⟩:=hh
 have H:=zzA h
 have HP:=zzA (pop_any w0.heap.size b.S V r (.pair i k) w (i:Int) (k:Int) 0 0 rfl (ht ▸ h.stk) (by omega))
 have HK:=zzA hK
 obtain ⟨x,y,HX,hy,hmt,hms,HXC,hql,hq6,hm1,hm2,hm3⟩:=pair_facts h hk0 hq hq2 hq3 hwl hm
 have HQ:=zzA hq2
 have HRP:=zzA hP
 have hin:i < n:=by have:=hP.len;have:=(zzK.1 hv).1;omega
 have HV:=zzA hv
 obtain ⟨ab,ao,rfl,hab⟩:=hP.at_ (by omega)
 obtain ⟨⟨iop,ix,iy,iarg,irng⟩,iA,inn,ic⟩:=v
 obtain rfl:iop=1:=hop
 simp only [] at hix hright
 have hkd:(k:Int) < (nt:Int):=by omega
 obtain ⟨tb,to_,rfl,htb⟩:∃ tb to_,At=some ⟨tb,to_,none⟩∧tb < w0.heap.size:=by obtain ⟨tb,to_,e,hb,_⟩:=hT.at_ (by omega);exact ⟨tb,to_,e,hb⟩
 have htc:w0.cell? ⟨tb,to_+k,none⟩=some (.int .i64 (t.getD k 0)):=by
  refine hT.cellAt ?_
  rw [zza,zzf,zzJ (by omega)]
  rfl
 have HTC:=zzA htc
 have HTB:=zzA htb
 have HTL:=zzA htl
 clear hT htc htl htb
 clear h ht hK hq hm hwl hq2 hP hv
 unfold PF at ha
 iterate 224 obtain ⟨_,ha⟩:=ha
 subst ha
 conv=>arg 2;whnf
 go_wp2_with (go_at_call 36;refine HP.out.mono ?_;rintro e w1 ⟨rfl,V1,hs1,hk1,_⟩;have H1:=zzA (H.out.stacked hk1 hs1);have q1:w1.cell? ⟨b.M,q / 64,none⟩=some (.int .u64 (x:Int)):=(H1.out.met.cell (q / 64)).trans HXC.out;have q2:w1.frozen? ⟨b.M,q / 64,none⟩=false:=H1.out.met.frozen (q / 64);have q3:b.M < w1.heap.size:=H1.out.met.lt;clear hs1 hk1;simp only [])
 go_region
 clear hms
 generalize hw2:((w1.setCell ⟨b.M,q / 64,none⟩ (.int .u64 ((x ||| 2 ^ (q % 64):Nat):Int))).alloc (.cells #[.int .i64 (i:Int),.int .i64 (k:Int),.int .i64 0,.int .i64 0] 82)).drew=w2
 obtain ⟨hn,HJB,HRP2,HNOT,p0,p1,j0,j1,j4,hab2,i0,i1,i2,i3,i4⟩:=pre_facts H1.out HQ.out HX.out HRP.out hab HV.out hw2
 clear q1 q2 q3 hw2
 clear hmt
 have HRR:=zzA (HRP.out.2 _ (zzL HV.out)).1
 simp only [] at HRR
 have HNEW:=zzA (zyI w2 62 [.int .i64 1,.int .i64 ix,.int .i64 iy,.int .i64 iarg,.slice iA inn ic])
 have hbi:Below w2.heap.size w2 (w2.alloc (.cells #[.int .i64 1,.int .i64 ix,.int .i64 iy,.int .i64 iarg,.slice iA inn ic] 62)):=(zzb _ _).alloc (zzF _) _
 have hb0:=zzA (hn.out.below.trans (hbi.mono hn.out.below.size))
 go_wp2_with fail
 have e1:(w2.alloc (.cells #[.int .i64 1,.int .i64 ix,.int .i64 iy,.int .i64 iarg,.slice iA inn ic] 62)).cell? ⟨tb,to_+k,none⟩=some (.int .i64 (t.getD k 0)):=(hb0.out.cell (p:=⟨tb,to_+k,none⟩) HTB.out).trans HTC.out
 have e2:(w2.alloc (.cells #[.int .i64 1,.int .i64 ix,.int .i64 iy,.int .i64 iarg,.slice iA inn ic] 62)).cell? ⟨w2.heap.size,4,none⟩=some (.slice iA inn ic):=HNEW.out.cell 4
 have e4:(w2.alloc (.cells #[.int .i64 1,.int .i64 ix,.int .i64 iy,.int .i64 iarg,.slice iA inn ic] 62)).cell? ⟨w1.heap.size,1,none⟩=some (.int .i64 (k:Int)):=(HJB.out.alloc _).cell 1
 have HNEW2:=zzA HNEW.out.drew
 have HJB2:=zzA (HJB.out.alloc (.cells #[.int .i64 1,.int .i64 ix,.int .i64 iy,.int .i64 iarg,.slice iA inn ic] 62)).drew
 have HR2:=zzA (((HRR.out.below hb0.out).more hb0.out.size).drew)
 have H2:=zzA ((hn.out.later hbi).drew)
 clear HNEW
 generalize w2.alloc (.cells #[.int .i64 1,.int .i64 ix,.int .i64 iy,.int .i64 iarg,.slice iA inn ic] 62)=w2a at *
 have HHAS:=zzA (has_any iA inn ic (t.getD k 0) irng w2a.drew HR2.out)
 refine wp_region_still_tail 13 (by kernel_rfl) (by kernel_rfl) ?_
 simp only [List.take_succ_cons,List.take_zero,List.drop_succ_cons,List.drop_zero]
 change wpStill _ _ w2a.drew _ _ _
 refine still_open (fun Qc hQc=>?_)
 repeat still_step
 refine wpStill_nil ?_
 refine hQc _ ?_
 clear hQc Qc
 change wpList _ _ _ _ _ w2a.drew
 cases hbm:memB irng (t.getD k 0) with
 | false =>
  go_wp2_with (go_at_call 37;refine HHAS.out.mono ?_;rintro e w3 ⟨rfl,hb3⟩;rw [hright,hbm];have H3:=zzA (H2.out.later hb3);clear hb3;simp only [Bool.and_false])
  refine HK.out _ _ PF.of ?_
  have he:eff t ⟨1,ix,iy,iarg,irng⟩ k { s with todo:=r,met:=s.met.set q true,steps:=s.steps+1 }={ s with todo:=r,met:=s.met.set q true,steps:=s.steps+1 }:=by
   unfold eff
   rw [if_pos rfl,if_neg]
   rintro ⟨_,h1⟩
   simp only [] at h1
   rw [hbm] at h1
   cases h1
  rw [he]
  exact ⟨_,_,H3.out.counted (s.steps+1) s.fin⟩
 | true =>
  have HPU2:=zzA (fun u (hb:Stk u w0.heap.size b.S V1 r)=>push_any w0.heap.size b.S V1 r (.pair ix.toNat (k+1)) u ix ((k:Int)+1) 0 0 (by simp [jobVals];omega) hb hn.out.lo.S (by omega))
  go_wp2_with (first | (go_at_call 35;refine (HPU2.out _ H3.out.stk).mono ?_;rintro e w4 ⟨rfl,V2,hs4,hk4,_⟩;have H4:=zzA (H3.out.stacked hk4 hs4);clear hs4 hk4;simp only []) | (go_at_call 37;refine HHAS.out.mono ?_;rintro e w3 ⟨rfl,hb3⟩;rw [hright,hbm];have H3:=zzA (H2.out.later hb3);have d1:w3.cell? ⟨w1.heap.size,1,none⟩=some (.int .i64 (k:Int)):=(HJB2.out.below hb3 HJB2.out.lt).cell 1;have d2:w3.cell? ⟨w2.heap.size,1,none⟩=some (.int .i64 ix):=(HNEW2.out.below hb3 HNEW2.out.lt).cell 1;clear hb3;simp only [Bool.and_true]))
  refine HK.out _ _ PF.of ?_
  have he:eff t ⟨1,ix,iy,iarg,irng⟩ k { s with todo:=r,met:=s.met.set q true,steps:=s.steps+1 }={ s with todo:=.pair ix.toNat (k+1) :: r,met:=s.met.set q true,steps:=s.steps+1 }:=by
   unfold eff
   rw [if_pos rfl,if_pos ⟨by have:=HTL.out;omega,hbm⟩]
  rw [he]
  exact ⟨_,_,H4.out.counted (s.steps+1) s.fin⟩
end Go.Proofs.YtgkclnmmjedmkaaGreat
