/- bitstate.Run: a round over a pair that is met now. -/
import Derived.Deep.RegionWith
import Derived.StillTailTactics
import Derived.Deep.RegionHeld3
import Derived.Test.YtgkclnmmjedmkaaGreatP49
set_option maxRecDepth 1000000
set_option maxHeartbeats 4000000
namespace Go.Proofs.YtgkclnmmjedmkaaGreat
open Go.RowKit Mach
theorem round_assert {w0:World} {b:Blocks} {A At:Option Addr} {n c nt ct k0 pl wl cl:Nat} {start caps:Int} {V:Value} {ws:List Nat} {s:MS} {w:World} {anch:Bool} {v0 vb:Value} {L:List InV} {t:List Int} {i k q j:Nat} {r:List Job} {v:InV} {K:Act→World→Prop} {Q:Exit→Act→World→Prop} {a:Act} (ha:PF b At nt ct k0 pl wl cl anch v0 vb (.int .i64 (s.steps:Int)) a)
  (hh:Pq w0 b A n c k0 pl wl start caps V ws s w L i k q r v)
  (hT:Reads w0 w0.heap.size 1 At nt ct (t.map (Value.int .i64))) (htl:t.length=nt)
  (hop:v.I.op=4) (hix:0≤v.I.x) (hkt:k≤nt) (hj:j < 6) (harg:v.I.arg=((2 ^ j:Nat):Int))
  (hK:∀ (a:Act) (w':World),PF b At nt ct k0 pl wl cl anch v0 vb (.int .i64 ((s.steps:Int)+1)) a→(∃ V' ws',Rn w0 b A n c start caps V' ws' (eff t v.I k { s with todo:=r,met:=s.met.set q true,steps:=s.steps+1 }) w')→K a w')
  : Code.wp Tryz.prog pairsBody (Exit.then K Q) a w:=by
 obtain ⟨h,ht,hroom,hi,hk,hk0,hpl,hq,hq2,hq3,hst,hwl,hm,hP,hv⟩:=hh
 have H:=zzA h
 have HP:=zzA (pop_any w0.heap.size b.S V r (.pair i k) w (i:Int) (k:Int) 0 0 rfl (ht ▸ h.stk) (by omega))
 have HK:=zzA hK
 obtain ⟨x,y,HX,hy,hmt,hms,HXC,hql,hq6,hm1,hm2,hm3⟩:=pair_facts h hk0 hq hq2 hq3 hwl hm
 have HQ:=zzA hq2
 have HRP:=zzA hP
 have hin:i < n:=by have:=hP.len;have:=(zzK.1 hv).1;omega
 have HV:=zzA hv
 obtain ⟨ab,ao,rfl,hab⟩:=hP.at_ (by omega)
 obtain ⟨⟨iop,ix,iy,iarg,irng⟩,iA,inn,ic⟩:=v
 obtain rfl:iop=4:=hop
 simp only [] at hix harg
 have HAS:=zzA (fun u=>holds_any j (atBits t k).toNat hj (by have:=atBits_bd t k;omega) u)
 rw [show (((atBits t k).toNat:Nat):Int)=atBits t k from by have:=(atBits_bd t k).1;omega,←harg] at HAS
 have HTT:=zzA hT
 clear hT htl harg
 clear h ht hK hq hm hwl hq2 hP hv
 unfold PF at ha
 iterate 224 obtain ⟨_,ha⟩:=ha
 subst ha
 conv=>arg 2;whnf
 go_wp2_with (go_at_call 36;refine HP.out.mono ?_;rintro e w1 ⟨rfl,V1,hs1,hk1,_⟩;have H1:=zzA (H.out.stacked hk1 hs1);have q1:w1.cell? ⟨b.M,q / 64,none⟩=some (.int .u64 (x:Int)):=(H1.out.met.cell (q / 64)).trans HXC.out;have q2:w1.frozen? ⟨b.M,q / 64,none⟩=false:=H1.out.met.frozen (q / 64);have q3:b.M < w1.heap.size:=H1.out.met.lt;clear hs1 hk1;simp only [])
 go_region
 clear hms
 generalize hw2:((w1.setCell ⟨b.M,q / 64,none⟩ (.int .u64 ((x ||| 2 ^ (q % 64):Nat):Int))).alloc (.cells #[.int .i64 (i:Int),.int .i64 (k:Int),.int .i64 0,.int .i64 0] 82)).drew=w2
 obtain ⟨hn,HJB,HRP2,HNOT,p0,p1,j0,j1,j4,hab2,i0,i1,i2,i3,i4⟩:=pre_facts H1.out HQ.out HX.out HRP.out hab HV.out hw2
 clear q1 q2 q3 hw2
 clear hmt
 have HNEW:=zzA (zyI w2 62 [.int .i64 4,.int .i64 ix,.int .i64 iy,.int .i64 iarg,.slice iA inn ic])
 have hbi:Below w2.heap.size w2 (w2.alloc (.cells #[.int .i64 4,.int .i64 ix,.int .i64 iy,.int .i64 iarg,.slice iA inn ic] 62)):=(zzb _ _).alloc (zzF _) _
 have hb0:=zzA (hn.out.below.trans (hbi.mono hn.out.below.size))
 go_wp2_with fail
 have e2:(w2.alloc (.cells #[.int .i64 4,.int .i64 ix,.int .i64 iy,.int .i64 iarg,.slice iA inn ic] 62)).cell? ⟨w2.heap.size,3,none⟩=some (.int .i64 iarg):=HNEW.out.cell 3
 have e4:(w2.alloc (.cells #[.int .i64 4,.int .i64 ix,.int .i64 iy,.int .i64 iarg,.slice iA inn ic] 62)).cell? ⟨w1.heap.size,1,none⟩=some (.int .i64 (k:Int)):=(HJB.out.alloc _).cell 1
 have HNEW2:=zzA HNEW.out.drew
 have HJB2:=zzA (HJB.out.alloc (.cells #[.int .i64 4,.int .i64 ix,.int .i64 iy,.int .i64 iarg,.slice iA inn ic] 62)).drew
 have HR2:=zzA (((HTT.out.below hb0.out).more hb0.out.size).drew)
 have H2:=zzA ((hn.out.later hbi).drew)
 clear HNEW
 generalize w2.alloc (.cells #[.int .i64 4,.int .i64 ix,.int .i64 iy,.int .i64 iarg,.slice iA inn ic] 62)=w2a at *
 have HAT:=zzA (at_any At nt ct k t w2a.drew HR2.out hkt)
 obtain ⟨ab1,hab1⟩:∃ x,atBits t k=x:=⟨_,rfl⟩
 rw [hab1] at HAT HAS
 have HAB:=zzA hab1
 clear hab1
 refine wp_region_noPanic ?_
 go_region_with (first | (go_at_call 39;(with_reducible refine HAT.out.mono ?_);rintro e w3 ⟨rfl,hb3⟩;have H3:=zzA (H2.out.later hb3);have d1:w3.cell? ⟨w1.heap.size,1,none⟩=some (.int .i64 (k:Int)):=(HJB2.out.below hb3 HJB2.out.lt).cell 1;have d2:w3.cell? ⟨w2.heap.size,1,none⟩=some (.int .i64 ix):=(HNEW2.out.below hb3 HNEW2.out.lt).cell 1;have d3:w3.cell? ⟨w2.heap.size,3,none⟩=some (.int .i64 iarg):=(HNEW2.out.below hb3 HNEW2.out.lt).cell 3;clear hb3;simp only []) | (go_at_call 38;(with_reducible refine (HAS.out _).mono ?_);rintro e w4 ⟨rfl,rfl⟩;simp only []))
 all_goals
  refine NoPanic.normal ?_
  cases hds:decide (ab1 / iarg % 2=1) with
  | false =>
   go_wp2_with fail
   refine HK.out _ _ PF.of ?_
   have he:eff t ⟨4,ix,iy,iarg,irng⟩ k { s with todo:=r,met:=s.met.set q true,steps:=s.steps+1 }={ s with todo:=r,met:=s.met.set q true,steps:=s.steps+1 }:=by
    show (if asB t k iarg then _ else _)=_
    rw [asB,HAB.out,hds]
    rfl
   rw [he]
   exact ⟨_,_,H3.out.counted (s.steps+1) s.fin⟩
  | true =>
   have HPU2:=zzA (fun u (hb:Stk u w0.heap.size b.S V1 r)=>push_any w0.heap.size b.S V1 r (.pair ix.toNat k) u ix (k:Int) 0 0 (by simp [jobVals];omega) hb hn.out.lo.S (by omega))
   go_wp2_with (go_at_call 35;refine (HPU2.out _ H3.out.stk).mono ?_;rintro e w4 ⟨rfl,V2,hs4,hk4,_⟩;have H4:=zzA (H3.out.stacked hk4 hs4);clear hs4 hk4;simp only [])
   refine HK.out _ _ PF.of ?_
   have he:eff t ⟨4,ix,iy,iarg,irng⟩ k { s with todo:=r,met:=s.met.set q true,steps:=s.steps+1 }={ s with todo:=.pair ix.toNat k :: r,met:=s.met.set q true,steps:=s.steps+1 }:=by
    show (if asB t k iarg then _ else _)=_
    rw [asB,HAB.out,hds]
    rfl
   rw [he]
   exact ⟨_,_,H4.out.counted (s.steps+1) s.fin⟩
structure RFound (w0 w':World) (R:Nat) (ok:Bool) (cv:Value) (caps:List Int) (which steps:Int):Prop where
 below:Below w0.heap.size w0 w'
 blk:Blk w' R 40 [.bool ok,cv,.int .i64 which,.int .i64 steps]
 own:w'.ownsRow w0.heap.size 3 1 cv caps.length (caps.map (Value.int .i64))
theorem round_match {w0:World} {b:Blocks} {A At:Option Addr} {n c nt ct k0 pl wl cl:Nat} {start caps:Int} {V:Value} {ws:List Nat} {s:MS} {w:World} {anch:Bool} {v0 vb:Value} {L:List InV} {t:List Int} {i k q:Nat} {r:List Job} {v:InV} {K:Act→World→Prop} {Q:Exit→Act→World→Prop} {a:Act} (ha:PF b At nt ct k0 pl wl cl anch v0 vb (.int .i64 (s.steps:Int)) a)
  (hh:Pq w0 b A n c k0 pl wl start caps V ws s w L i k q r v)
  (hop:v.I.op=5) (hcl:cl=s.caps.length) (hcap:cl≤1002)
  (hK:∀ (a:Act) (w':World) (cv:Value),a.tmps.getD 8 undef=.pointer (some ⟨b.R,0,none⟩)→a.tmps.getD 9 undef=.int .i64 0→a.defers=[]→RFound w0 w' b.R true cv s.caps v.I.arg ((s.steps:Int)+1)→Q .ret a w')
  : Code.wp Tryz.prog pairsBody (Exit.then K Q) a w:=by
 obtain ⟨h,ht,hroom,hi,hk,hk0,hpl,hq,hq2,hq3,hst,hwl,hm,hP,hv⟩:=hh
 have H:=zzA h
 have HP:=zzA (pop_any w0.heap.size b.S V r (.pair i k) w (i:Int) (k:Int) 0 0 rfl (ht ▸ h.stk) (by omega))
 have HK:=zzA hK
 obtain ⟨x,y,HX,hy,hmt,hms,HXC,hql,hq6,hm1,hm2,hm3⟩:=pair_facts h hk0 hq hq2 hq3 hwl hm
 have HQ:=zzA hq2
 have HRP:=zzA hP
 have hin:i < n:=by have:=hP.len;have:=(zzK.1 hv).1;omega
 have HV:=zzA hv
 obtain ⟨ab,ao,rfl,hab⟩:=hP.at_ (by omega)
 obtain ⟨⟨iop,ix,iy,iarg,irng⟩,iA,inn,ic⟩:=v
 obtain rfl:iop=5:=hop
 have HCL:=zzA hcl
 clear hcl
 clear h ht hK hq hm hwl hq2 hP hv
 unfold PF at ha
 iterate 224 obtain ⟨_,ha⟩:=ha
 subst ha
 conv=>arg 2;whnf
 go_wp2_with (go_at_call 36;refine HP.out.mono ?_;rintro e w1 ⟨rfl,V1,hs1,hk1,_⟩;have H1:=zzA (H.out.stacked hk1 hs1);have q1:w1.cell? ⟨b.M,q / 64,none⟩=some (.int .u64 (x:Int)):=(H1.out.met.cell (q / 64)).trans HXC.out;have q2:w1.frozen? ⟨b.M,q / 64,none⟩=false:=H1.out.met.frozen (q / 64);have q3:b.M < w1.heap.size:=H1.out.met.lt;clear hs1 hk1;simp only [])
 go_region
 clear hms
 generalize hw2:((w1.setCell ⟨b.M,q / 64,none⟩ (.int .u64 ((x ||| 2 ^ (q % 64):Nat):Int))).alloc (.cells #[.int .i64 (i:Int),.int .i64 (k:Int),.int .i64 0,.int .i64 0] 82)).drew=w2
 obtain ⟨hn,HJB,HRP2,HNOT,p0,p1,j0,j1,j4,hab2,i0,i1,i2,i3,i4⟩:=pre_facts H1.out HQ.out HX.out HRP.out hab HV.out hw2
 clear q1 q2 q3 hw2
 clear hmt
 have HNEW:=zzA (zyI w2 62 [.int .i64 5,.int .i64 ix,.int .i64 iy,.int .i64 iarg,.slice iA inn ic])
 have hbi:Below w2.heap.size w2 (w2.alloc (.cells #[.int .i64 5,.int .i64 ix,.int .i64 iy,.int .i64 iarg,.slice iA inn ic] 62)):=(zzb _ _).alloc (zzF _) _
 have hb0:=zzA (hn.out.below.trans (hbi.mono hn.out.below.size))
 go_wp2_with fail
 have e2:(w2.alloc (.cells #[.int .i64 5,.int .i64 ix,.int .i64 iy,.int .i64 iarg,.slice iA inn ic] 62)).cell? ⟨w2.heap.size,3,none⟩=some (.int .i64 iarg):=HNEW.out.cell 3
 have HNEW2:=zzA HNEW.out.drew
 have H2:=zzA ((hn.out.later hbi).drew)
 have hb00:=zzA (show w0.heap.size≤(w2.alloc (.cells #[.int .i64 5,.int .i64 ix,.int .i64 iy,.int .i64 iarg,.slice iA inn ic] 62)).drew.heap.size from H2.out.below.size)
 clear HNEW
 generalize w2.alloc (.cells #[.int .i64 5,.int .i64 ix,.int .i64 iy,.int .i64 iarg,.slice iA inn ic] 62)=w2a at *
 have HCR:=zzA (show Reads w2a.drew w2a.drew.heap.size 1 (some ⟨b.C,0,none⟩) cl cl (s.caps.map (Value.int .i64)) from by
  have h1:=H2.out.capt.reads (size:=1) (n:=cl) (c:=cl) (zzF _) (by omega) (by simp [HCL.out])
  rwa [List.take_of_length_le (by simp [HCL.out])] at h1)
 have HCLO:=zzA (clone_any (some ⟨b.C,0,none⟩) cl cl s.caps w2a.drew (fun h=>by cases h) HCR.out (by omega))
 refine wp_region_noPanic ?_
 go_region_with (go_at_call 33;(with_reducible refine HCLO.out.mono ?_);rintro e w3 ⟨cv,rfl,hown,hb3⟩;obtain ⟨cA,cc,rfl⟩:=own_shape hown;have H3:=zzA (H2.out.later hb3);have d3:w3.cell? ⟨w2.heap.size,3,none⟩=some (.int .i64 iarg):=(HNEW2.out.below hb3 HNEW2.out.lt).cell 3;have HOWN:=zzA hown;have r0:w3.cell? ⟨b.R,0,none⟩=some (.bool false):=H3.out.found.cell 0;have r1:w3.cell? ⟨b.R,1,none⟩=some (.slice none 0 0):=H3.out.found.cell 1;have r2:w3.cell? ⟨b.R,2,none⟩=some (.int .i64 0):=H3.out.found.cell 2;have r3:w3.cell? ⟨b.R,3,none⟩=some (.int .i64 0):=H3.out.found.cell 3;have s0:=H3.out.found.frozen 0;have s1:=H3.out.found.frozen 1;have s2:=H3.out.found.frozen 2;have s3:=H3.out.found.frozen 3;have s4:=H3.out.found.lt;clear hb3 hown;simp only [])
 all_goals
  refine NoPanic.normal ?_
  go_wp2_with fail
 all_goals
  have hr:some b.R≠(Value.slice cA s.caps.length cc).ownBlock:=blk_apart HOWN.out H3.out.found (by decide)
  have hk:=fun u0 u1 u2 u3=>(((zyG (w:=w3) ⟨b.R,0,none⟩ u0).trans (zyG ⟨b.R,1,none⟩ u1)).trans (zyG ⟨b.R,2,none⟩ u2)).trans (zyG ⟨b.R,3,none⟩ u3)
  refine HK.out _ _ (.slice cA s.caps.length cc) rfl rfl rfl ⟨?_,?_,?_⟩
  ·exact zyH H3.out.below (hk _ _ _ _) (by intro g hg;simp at hg;rw [hg];exact H3.out.lo.R) H3.out.below.size
  ·exact (((H3.out.found.set_ 0 (.bool true)).set_ 1 (.slice cA s.caps.length cc)).set_ 2 (.int .i64 iarg)).set_ 3 (.int .i64 ((s.steps:Int)+1))
  ·exact own_kept (own_lower HOWN.out hb00.out) (hk _ _ _ _) (by intro g hg hm;simp at hm;rw [hm] at hg;exact hr hg.symm)
structure Cx (w0:World) (A At:Option Addr) (n c nt ct k0 pl wl cl:Nat) (p:Prg) (t:List Int) (L:List InV):Prop where
 rp:ReadsP w0 w0.heap.size A n c L
 rt:Reads w0 w0.heap.size 1 At nt ct (t.map (Value.int .i64))
 pi:p.insts=insL L
 chk:checkB p=true
 hk0:k0≤nt
 hpl:pl=places t k0
 hwl:wl=p.insts.length*places t k0 / 64+1
 hcl:cl=p.caps.toNat
 big:p.insts.length*places t k0≤16777216
 ntl:nt≤4194304
theorem Cx.tl {w0:World} {A At:Option Addr} {n c nt ct k0 pl wl cl:Nat} {p:Prg} {t:List Int} {L:List InV} (h:Cx w0 A At n c nt ct k0 pl wl cl p t L):t.length=nt:=by have:=h.rt.len;simpa using this
theorem Cx.nl {w0:World} {A At:Option Addr} {n c nt ct k0 pl wl cl:Nat} {p:Prg} {t:List Int} {L:List InV} (h:Cx w0 A At n c nt ct k0 pl wl cl p t L):p.insts.length=n:=by rw [h.pi,insL,zzP];exact h.rp.len
theorem head_of {p:Prg} (h:checkB p=true):1≤(p.insts.length:Int)∧(p.insts.length:Int)≤20000∧0≤p.start∧p.start < (p.insts.length:Int)∧2≤p.caps∧p.caps≤1002:=by
 unfold checkB headB at h
 simp only [zzc,zzg] at h
 omega
theorem op_cases {x:Ins} {n caps:Int} (h:mayB x n caps=true):x.op=1∨x.op=2∨x.op=3∨x.op=4∨x.op=5∨x.op=6∨x.op=7:=by
 unfold mayB at h
 by_cases h1:x.op=1;· exact .inl h1
 by_cases h2:x.op=2;· exact .inr (.inl h2)
 by_cases h3:x.op=3;· exact .inr (.inr (.inl h3))
 by_cases h4:x.op=4;· exact .inr (.inr (.inr (.inl h4)))
 by_cases h5:x.op=5;· exact .inr (.inr (.inr (.inr (.inl h5))))
 by_cases h6:x.op=6;· exact .inr (.inr (.inr (.inr (.inr (.inl h6)))))
 by_cases h7:x.op=7;· exact .inr (.inr (.inr (.inr (.inr (.inr h7)))))
 simp [h1,h2,h3,h4,h5,h6,h7] at h
theorem eff_steps (t:List Int) (x:Ins) (k:Nat) (s:MS):(eff t x k s).steps=s.steps:=by
 unfold eff
 repeat' split
 all_goals rfl
theorem eff_fin (t:List Int) (x:Ins) (k:Nat) (s:MS) (h:x.op≠5):(eff t x k s).fin=s.fin:=by
 unfold eff
 repeat' split
 all_goals first | rfl | (exact absurd ‹_› h)
theorem eff_match (t:List Int) (x:Ins) (k:Nat) (s:MS) (h:x.op=5):eff t x k s={ s with fin:=some x.arg }:=by
 unfold eff
 simp [h]
def PR (w:World) (b:Blocks) (A:Option Addr) (n c:Nat) (start:Int) (cl:Nat) (p:Prg) (t:List Int) (k0:Nat) (s0:MS) (m:Nat) (s:MS) (w':World):Prop :=
 Ok p t k0 s∧s.fin=none∧meas s≤m∧(∃ j,s=iter p t k0 j s0)∧∃ V ws,Rn w b A n c start (cl:Int) V ws s w'
def PI (w:World) (b:Blocks) (A At:Option Addr) (n c nt ct k0 pl wl cl:Nat) (start:Int) (anch:Bool) (v0 vb:Value) (p:Prg) (t:List Int) (s0:MS) (m:Nat) (a:Act) (w':World):Prop :=
 ∃ s:MS,PF b At nt ct k0 pl wl cl anch v0 vb (.int .i64 (s.steps:Int)) a∧PR w b A n c start cl p t k0 s0 m s w'
theorem pairs_round (w:World) (b:Blocks) (A At:Option Addr) (n c nt ct k0 pl wl cl:Nat) (start:Int) (anch:Bool) (v0 vb:Value) (p:Prg) (t:List Int) (s0:MS) (L:List InV) (hx:Cx w A At n c nt ct k0 pl wl cl p t L) (hpc:p.caps=(cl:Int)) {K:Act→World→Prop} {Q:Exit→Act→World→Prop}
  (h1:∀ (a:Act) (w':World) (s:MS),s=final p t k0 s0→s.fin=none→PF b At nt ct k0 pl wl cl anch v0 vb (.int .i64 (s.steps:Int)) a→(∃ V ws,Rn w b A n c start (cl:Int) V ws s w')→Q (.exit (if anch=true then 1 else 2)) a w')
  (h3:∀ (a:Act) (w':World) (cv:Value) (s:MS) (which:Int),s=final p t k0 s0→s.fin=some which→a.tmps.getD 8 undef=.pointer (some ⟨b.R,0,none⟩)→a.tmps.getD 9 undef=.int .i64 0→a.defers=[]→RFound w w' b.R true cv s.caps which (s.steps:Int)→Q .ret a w')
  (m:Nat) (hK:∀ (m':Nat) (a:Act) (w':World),m' < m→PI w b A At n c nt ct k0 pl wl cl start anch v0 vb p t s0 m' a w'→K a w') (a:Act) (wr:World) (hI:PI w b A At n c nt ct k0 pl wl cl start anch v0 vb p t s0 m a wr)
  : Code.wp Tryz.prog pairsBody (Exit.then K Q) a wr:=by
 obtain ⟨s,ha,hok,hf,hme,⟨j,hj⟩,V,ws,hrn⟩:=hI
 obtain ⟨hd1,hd2,hd3,hd4,hd5,hd6⟩:=head_of hx.chk
 have htl:=hx.tl
 have hnl:=hx.nl
 have hroom:=hok.room
 have hbig:=hx.big
 have hml:=hok.met
 have hntl:=hx.ntl
 have hst0:=hok.steps
 have hst:s.steps≤16777216:=by omega
 have hcl1:cl≤1002:=by rw [hx.hcl];omega
 have hcs:cl=s.caps.length:=by rw [hok.caps];exact hx.hcl
 have hwl:wl=ws.length:=by rw [hrn.bits.len,hok.met];exact hx.hwl
 have hnext:∀ s':MS,s'=mstep p t k0 s→s'.fin=none→s.todo≠[]→∀ (a':Act) (w':World),PF b At nt ct k0 pl wl cl anch v0 vb (.int .i64 (s'.steps:Int)) a'→(∃ V' ws',Rn w b A n c start (cl:Int) V' ws' s' w')→K a' w':=by
  intro s' hs' hf' hh a' w' ha' hr
  subst hs'
  exact hK (meas (mstep p t k0 s)) a' w' (by have:=step_less p t k0 (show ¬halted s from fun h=>h.elim (fun h=>h hf) hh);omega) ⟨_,ha',hok.step hx.chk,hf',zzF _,⟨j+1,by rw [iter_succ',←hj]⟩,hr⟩
 match ht:s.todo with
 | [] =>
  have hfinal:s=final p t k0 s0:=by
   have hh:halted (iter p t k0 j s0):=by rw [←hj];exact .inr ht
   rw [←final_of p t k0 hh,←hj]
  exact round_empty (t:=t) (L:=L) ha hrn ht (fun e a' w' ha' hr=>by have:=h1 a' w' s hfinal hf ha' ⟨_,_,hr⟩;rwa [if_pos e] at this) (fun e a' w' ha' hr=>by have:=h1 a' w' s hfinal hf ha' ⟨_,_,hr⟩;rwa [if_neg (by rw [e];decide)] at this)
 | .back cc old :: r =>
  have hjk:JobOk p t k0 (.back cc old):=hok.jobs _ (by rw [ht];exact zzH)
  rw [ht,zzO] at hroom
  exact round_back (t:=t) (L:=L) ha hrn ht (by rw [hok.caps];exact hjk) hcs hcl1 (by omega) (hnext _ (mstep_back hf ht).symm hf (by simp [ht]))
 | .pair i k :: r =>
  have hjk:JobOk p t k0 (.pair i k):=hok.jobs _ (by rw [ht];exact zzH)
  rw [ht,zzO] at hroom
  have hqe:i*pl+(k - k0)=bitOf t k0 i k:=by rw [hx.hpl];rfl
  have hq2:bitOf t k0 i k < s.met.length:=by rw [hml];exact bit_lt hjk
  have hi2:i < p.insts.length:=hjk.1
  have hk2:k≤t.length:=hjk.2.2
  have hplb:pl≤4194305:=by rw [hx.hpl];unfold places;omega
  by_cases hmm:s.met.getD (bitOf t k0 i k) true=true
  ·exact round_met (t:=t) (L:=L) ha hrn ht (by omega) (by omega) (by omega) hjk.2.1 hplb hqe hq2 (by omega) hwl hmm (hnext _ (mstep_met hf ht hmm).symm hf (by simp [ht]))
  ·have hmm':s.met.getD (bitOf t k0 i k) true=false:=by simpa using hmm
   obtain ⟨v,hv⟩:∃ v,L[i]?=some v:=⟨_,zzJ (by have:=hx.rp.len;omega)⟩
   have hxI:p.insts[i]?=some v.I:=by rw [hx.pi,insL,zza,hv];rfl
   have hmay:=may_of hx.chk hxI
   have hst':=mstep_pair hf ht hmm' hxI
   have hh:Pq w b A n c k0 pl wl start (cl:Int) V ws s wr L i k (bitOf t k0 i k) r v:=⟨hrn,ht,by omega,by omega,by omega,hjk.2.1,hplb,hqe,hq2,by omega,hst,hwl,hmm',hx.rp,hv⟩
   have hN:=fun (h5:v.I.op≠5) a' w' (ha':PF b At nt ct k0 pl wl cl anch v0 vb (.int .i64 ((s.steps:Int)+1)) a') hr=>hnext _ hst'.symm (by rw [eff_fin _ _ _ _ h5];exact hf) (by simp [ht]) a' w' (by rw [eff_steps];exact ha') hr
   rcases op_cases hmay with e | e | e | e | e | e | e
   ·by_cases hkn:k < nt
    ·exact round_rune (t:=t) (L:=L) ha hh hx.rt htl e (may_x hmay (.inl e)).1 hkn (may_rng hmay e) (hN (by rw [e];decide))
    ·exact round_rune_out (t:=t) (L:=L) ha hh e (by omega) htl (hN (by rw [e];decide))
   ·exact round_alt (t:=t) (L:=L) ha hh e (may_x hmay (.inr (.inl e))).1 (may_y hmay e).1 (hN (by rw [e];decide))
   ·have hga:=may_arg hmay e
    exact round_cap (t:=t) (L:=L) ha hh e (may_x hmay (.inr (.inr (.inl e)))).1 hga.1 (by rw [hok.caps];omega) hcs hcl1 (hN (by rw [e];decide))
   ·obtain ⟨j6,hj6,harg⟩:=may_as hmay e
    exact round_assert (t:=t) (L:=L) ha hh hx.rt htl e (may_x hmay (.inr (.inr (.inr (.inl e))))).1 (by omega) hj6 harg (hN (by rw [e];decide))
   ·refine round_match (t:=t) (L:=L) ha hh e hcs hcl1 ?_
    intro a w' cv ha1 ha2 ha3 hfound
    have hE:=eff_match t v.I k { s with todo:=r,met:=s.met.set (bitOf t k0 i k) true,steps:=s.steps+1 } e
    rw [hE] at hst'
    have hfinal:mstep p t k0 s=final p t k0 s0:=by
     have hh:halted (iter p t k0 (j+1) s0):=by rw [iter_succ',←hj,hst'];exact .inl (by simp)
     rw [←final_of p t k0 hh,iter_succ',←hj]
    exact h3 a w' cv _ v.I.arg (hst'.symm.trans hfinal) rfl ha1 ha2 ha3 hfound
   ·exact round_fail (t:=t) (L:=L) ha hh e (hN (by rw [e];decide))
   ·exact round_nop (t:=t) (L:=L) ha hh e (may_x hmay (.inr (.inr (.inr (.inr e))))).1 (hN (by rw [e];decide))
theorem pairs_loop (w:World) (b:Blocks) (A At:Option Addr) (n c nt ct k0 pl wl cl:Nat) (start:Int) (anch:Bool) (v0 vb:Value) (p:Prg) (t:List Int) (s0:MS) (L:List InV) (hx:Cx w A At n c nt ct k0 pl wl cl p t L) (hpc:p.caps=(cl:Int)) {Q:Exit→Act→World→Prop}
  (a:Act) (wr:World) (ha:PF b At nt ct k0 pl wl cl anch v0 vb (.int .i64 (s0.steps:Int)) a) (hok:Ok p t k0 s0) (hf:s0.fin=none) (hrn:∃ V ws,Rn w b A n c start (cl:Int) V ws s0 wr)
  (h1:∀ (a:Act) (w':World) (s:MS),s=final p t k0 s0→s.fin=none→PF b At nt ct k0 pl wl cl anch v0 vb (.int .i64 (s.steps:Int)) a→(∃ V ws,Rn w b A n c start (cl:Int) V ws s w')→Q (.exit (if anch=true then 1 else 2)) a w')
  (h3:∀ (a:Act) (w':World) (cv:Value) (s:MS) (which:Int),s=final p t k0 s0→s.fin=some which→a.tmps.getD 8 undef=.pointer (some ⟨b.R,0,none⟩)→a.tmps.getD 9 undef=.int .i64 0→a.defers=[]→RFound w w' b.R true cv s.caps which (s.steps:Int)→Q .ret a w')
  : Code.wp Tryz.prog (.loop pairsBody) Q a wr :=
 wp_loop_ghost (PI w b A At n c nt ct k0 pl wl cl start anch v0 vb p t s0) (meas s0) ⟨s0,ha,hok,hf,zzF _,⟨0,rfl⟩,hrn⟩ (fun m a w' hI=>pairs_round w b A At n c nt ct k0 pl wl cl start anch v0 vb p t s0 L hx hpc h1 h3 m (fun m' a' w'' h h'=>⟨m',h,h'⟩) a w' hI)
end Go.Proofs.YtgkclnmmjedmkaaGreat
