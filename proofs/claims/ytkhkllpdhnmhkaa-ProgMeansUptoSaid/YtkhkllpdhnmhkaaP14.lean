/- heronref06's Tree.put: a node more. -/
import Derived.BigRegion
import Derived.BigQuiet
import Derived.Deep.RegionHeldLaw
import Derived.Test.YtkhkllpdhnmhkaaP13
namespace Go.Proofs.Ytkhkllpdhnmhkaa
open Go.RowKit
theorem info_nodeR:(Try.prog.info? 87).map (fun i=>(i.zero,i.size,i.bytes))=some (some (.agg #[.int .i64 0,.int .i64 0,.int .i64 0,.slice none 0 0,.slice none 0 0,.bool false,.int .i64 0,.int .i64 0]),8,96):=by kernel_rfl
set_option maxRecDepth 100000 in
set_option maxHeartbeats 4000000 in
theorem rput_any {X:List Nat} (rb:Nat) (x:NdV) (v:Value) (L:List NdV) (w:World) (h:TbR X rb v L w) (hl:L.length≤1000000000) (hr:RdA w (Fs X rb v w) 2 x.ra x.rng.length x.rc (flat x.rng)) (hs:RdA w (Fs X rb v w) 1 x.sa x.subs.length x.sc (numsR x.subs)) (hlt:∀ j∈x.subs,j < L.length) :
  Calls Try.prog 38 #[.pointer (some ⟨rb,0,none⟩),.agg #[.int .i64 x.kind,.int .i64 x.ast,.int .i64 x.ix,.slice x.ra x.rng.length x.rc,.slice x.sa x.subs.length x.sc,.bool x.lz,.int .i64 x.up,.int .i64 x.nth]] w fun e w'=>e=.returned (.int .i64 L.length)∧∃ v',TbR X rb v' (putL L x) w'∧RKI rb v w v' w':=by
 obtain ⟨i0,hi,hz0,hz1,hz2⟩:=info_parts info_nodeR
 obtain ⟨A,c,rfl⟩:=own_shape h.own
 have hba:Below w.heap.size w (w.alloc (.cells #[.int .i64 x.kind,.int .i64 x.ast,.int .i64 x.ix,.slice x.ra x.rng.length x.rc,.slice x.sa x.subs.length x.sc,.bool x.lz,.int .i64 (-1),.int .i64 x.nth] 87)):=(zzb _ _).alloc (zzF _) _
 have hb1:=h.blk.below hba h.blk.lt
 have ho1:=own_below h.own hba
 have ht1:=Blk.new w 87 [.int .i64 x.kind,.int .i64 x.ast,.int .i64 x.ix,.slice x.ra x.rng.length x.rc,.slice x.sa x.subs.length x.sc,.bool x.lz,.int .i64 (-1),.int .i64 x.nth]
 have hbs0:rb≤(w.alloc (.cells #[.int .i64 x.kind,.int .i64 x.ast,.int .i64 x.ix,.slice x.ra x.rng.length x.rc,.slice x.sa x.subs.length x.sc,.bool x.lz,.int .i64 (-1),.int .i64 x.nth] 87)).heap.size:=zzU (Nat.le_of_lt h.blk.lt) hba.size
 have e00:w.cell? ⟨rb,0,none⟩=some (.slice A L.length c):=h.blk.cell 0
 have e01:(w.alloc (.cells #[.int .i64 x.kind,.int .i64 x.ast,.int .i64 x.ix,.slice x.ra x.rng.length x.rc,.slice x.sa x.subs.length x.sc,.bool x.lz,.int .i64 x.up,.int .i64 x.nth] 87)).cell? ⟨rb,0,none⟩=some (.slice A L.length c):=(h.blk.alloc _).cell 0
 have HNB0:=zzA (h.new 87 [.int .i64 x.kind,.int .i64 x.ast,.int .i64 x.ix,.slice x.ra x.rng.length x.rc,.slice x.sa x.subs.length x.sc,.bool x.lz,.int .i64 (-1),.int .i64 x.nth])
 have HK0:=zzA (show RKI rb (.slice A L.length c) w (.slice A L.length c) (w.alloc (.cells #[.int .i64 x.kind,.int .i64 x.ast,.int .i64 x.ix,.slice x.ra x.rng.length x.rc,.slice x.sa x.subs.length x.sc,.bool x.lz,.int .i64 (-1),.int .i64 x.nth] 87)) from .of_below hba)
 have H:=zzA (h.below hba)
 have HR:=zzA (hr.rki HK0.out)
 have HS:=zzA (hs.rki HK0.out)
 have HLT:=zzA hlt
 have hss:=hs.1
 have hss2:=hs.2.1
 clear h hr hs hlt
 go_enter Try.func38,Try.ntmps38
 go_wp2_with (at_builtin;refine dbg ?_)
 generalize (w.alloc (.cells #[.int .i64 x.kind,.int .i64 x.ast,.int .i64 x.ix,.slice x.ra x.rng.length x.rc,.slice x.sa x.subs.length x.sc,.bool x.lz,.int .i64 (-1),.int .i64 x.nth] 87))=w1 at *
 have hb12:Below w1.heap.size w1 (w1.alloc (.cells #[.int .i64 x.kind,.int .i64 x.ast,.int .i64 x.ix,.slice x.ra x.rng.length x.rc,.slice x.sa x.subs.length x.sc,.bool x.lz,.int .i64 (-1),.int .i64 x.nth] 87)):=(zzb _ _).alloc (zzF _) _
 have HB:=zzA (hb1.alloc (.cells #[.int .i64 x.kind,.int .i64 x.ast,.int .i64 x.ix,.slice x.ra x.rng.length x.rc,.slice x.sa x.subs.length x.sc,.bool x.lz,.int .i64 (-1),.int .i64 x.nth] 87))
 have ht2:=ht1.alloc (.cells #[.int .i64 x.kind,.int .i64 x.ast,.int .i64 x.ix,.slice x.ra x.rng.length x.rc,.slice x.sa x.subs.length x.sc,.bool x.lz,.int .i64 (-1),.int .i64 x.nth] 87)
 have HO:=zzA (own_below ho1 hb12)
 have hbs:rb≤(w1.alloc (.cells #[.int .i64 x.kind,.int .i64 x.ast,.int .i64 x.ix,.slice x.ra x.rng.length x.rc,.slice x.sa x.subs.length x.sc,.bool x.lz,.int .i64 (-1),.int .i64 x.nth] 87)).drew.heap.size:=zzU hbs0 hb12.size
 have e0:w1.drew.cell? ⟨rb,0,none⟩=some (.slice A L.length c):=hb1.cell 0
 have e1:(w1.alloc (.cells #[.int .i64 x.kind,.int .i64 x.ast,.int .i64 x.ix,.slice x.ra x.rng.length x.rc,.slice x.sa x.subs.length x.sc,.bool x.lz,.int .i64 (-1),.int .i64 x.nth] 87)).drew.cell? ⟨rb,0,none⟩=some (.slice A L.length c):=HB.out.cell 0
 obtain ⟨g0,g1,g2,g3,g4,g5,g6,g7⟩:=bc8 (ht1)
 obtain ⟨f0,f1,f2,f3,f4,f5,f6,f7⟩:=bc8 (ht2)
 have HBA:=zzA hba
 have HB12:=zzA hb12
 have HT1:=zzA ht1
 have HSZ:=zzA (show w1.heap.size≤(w1.alloc (.cells #[.int .i64 x.kind,.int .i64 x.ast,.int .i64 x.ix,.slice x.ra x.rng.length x.rc,.slice x.sa x.subs.length x.sc,.bool x.lz,.int .i64 (-1),.int .i64 x.nth] 87)).drew.heap.size from hb12.size)
 clear hba hb1 ho1 ht1 ht2 hb12 hbs0 e00 e01
 go_region_law (first
  | (refine step_append_lies _ rfl (.tmp 17) (.tmp 19) 66 rfl rb 87 i0 (.agg #[.int .i64 0,.int .i64 0,.int .i64 0,.slice none 0 0,.slice none 0 0,.bool false,.int .i64 0,.int .i64 0]) 8 96 Try.underlying66 hi hz0 hz1 hz2 rfl (by decide) (.slice A L.length c) L.length (ndRow L) rfl HO.out.drew ⟨w1.heap.size,0,none⟩ 1 1 [.int .i64 x.kind,.int .i64 x.ast,.int .i64 x.ix,.slice x.ra x.rng.length x.rc,.slice x.sa x.subs.length x.sc,.bool x.lz,.int .i64 (-1),.int .i64 x.nth] rfl rfl (new_atT w1 _ [.int .i64 x.kind,.int .i64 x.ast,.int .i64 x.ix,.slice x.ra x.rng.length x.rc,.slice x.sa x.subs.length x.sc,.bool x.lz,.int .i64 (-1),.int .i64 x.nth]) (ndV_one { x with up:=-1 }) (by decide) (by unfold maxLen;omega) (by omega) hbs _ rfl ?_;intro g cap2 w2 hou2 hg2 hat2 hlt2;have hgo:=at_old HSZ.out hat2;have hgr:g≠rb:=(fun e=>(by rcases hgo with h | h;exact H.out.sep (by rw [h,e]);have:=H.out.blk.lt;omega));have hb2:=HB.out.drew.grown hg2 H.out.sep.symm;have q1:w2.cell? ⟨rb,0,none⟩=some (.slice A L.length c):=hb2.cell 0;have q2:=hb2.frozen 0;have q3:=hb2.lt;have HOU:=zzA hou2;have HGO:=zzA hgo;have HGR:=zzA hgr;have HB2:=zzA hb2;have HG2:=zzA hg2;clear hgo hgr hb2 hg2 hou2 hat2))
 all_goals
  have hfin:=TbR.fin (c:=c) (u:={ x with up:=-1 }) H.out HR.out HS.out (((Kept.of_below (L:=[]) HB12.out).trans ((Kept.drew (L:=[])).trans (Kept.of_grown' HG2.out))).more (by intro k hk;simp at hk ⊢;exact .inl hk)) ((Kept.setCell ⟨rb,0,none⟩ (.slice (some ⟨g,0,none⟩) (L.length+1) cap2)).more (by intro k hk;simp at hk ⊢;exact .inl (.inl hk))) HGO.out HGR.out (HB2.out.set_ 0 _) (by
   rw [ndRow_app,ndRow_one]
   exact own_kept HOU.out (Kept.setCell (w:=w2) ⟨rb,0,none⟩ _) (fun x hx hm=>by simp [Value.ownBlock] at hx hm;exact HGR.out (by rw [hx,hm])))
  obtain ⟨htb,hrk⟩:=hfin
  have HT:=zzA htb
  have HKF:=zzA hrk
  have HK:=zzA hrk
  have HX:=zzA (hrk.nb HNB0.out)
  have HS2:=zzA (HS.out.rki hrk)
  obtain ⟨L1,hL1⟩:∃ L1,L1=L++[{ x with up:=-1 }]:=⟨_,rfl⟩
  have HL1:=zzA hL1
  rw [←hL1] at HT HK HKF HX HS2
  have hN:L1.length=L.length+1:=by rw [hL1,zzG];rfl
  have HN:=zzA hN
  clear htb hrk hL1 H HR HS HNB0 HB HO HBA HB12 HT1 HSZ HOU HGO HB2 HG2 q1 q2 q3 e0 e1
  clear g0 f0 g1 f1 g2 f2 g3 f3 g4 f4 g5 f5 g6 f6 g7 f7
  go_wp2_with fail
  generalize (w2.setCell ⟨rb,0,none⟩ (.slice (some ⟨g,0,none⟩) (L.length+1) cap2))=w3 at *
  go_loopw [6] (fun iv wr=>∃ i:Nat,i≤x.subs.length∧iv=.int .i64 (i:Int)∧TbR X rb (.slice (some ⟨g,0,none⟩) (setUps L1 L.length (x.subs.take i) 0).length cap2) (setUps L1 L.length (x.subs.take i) 0) wr∧RKI rb (.slice (some ⟨g,0,none⟩) L1.length cap2) w3 (.slice (some ⟨g,0,none⟩) L1.length cap2) wr) (fun iv _=>x.subs.length - (intOf iv).toNat)
  case atStart=>exact ⟨0,zzZ _,rfl,HT.out,.of_below (zzb _ _)⟩
  case round =>
   obtain ⟨i,hi,rfl,ht,hk⟩:=hrel
   obtain ⟨wl,hwl⟩:∃ wl,wl=wr:=⟨_,rfl⟩
   subst hwl
   have hlen:(setUps L1 L.length (x.subs.take i) 0).length=L.length+1:=by rw [setUps_len,HN.out]
   have xb4:=(hk.nb HX.out).blk.cell 4
   simp only [zzX,zzR] at xb4
   obtain ⟨Li,hLi⟩:∃ Li,Li=setUps L1 L.length (x.subs.take i) 0:=⟨_,rfl⟩
   rw [←hLi] at ht hlen
   have HLI:=zzA hLi
   have HTI:=zzA ht
   have HKI:=zzA hk
   by_cases hlt:i < x.subs.length
   ·have hlt2:(i:Int) < (x.subs.length:Int):=by omega
    obtain ⟨j,hj⟩:∃ j,x.subs[i]?=some j:=⟨_,zzJ hlt⟩
    have hjl:j < L.length:=HLT.out j (zzL hj)
    obtain ⟨a,ha⟩:∃ a,Li[j]?=some a:=⟨_,zzJ (by omega)⟩
    obtain ⟨bs,os,hsa,hbs,hcs⟩:=(HS2.out.rki hk).2.2.2.2 (by omega)
    have y1:=hcs i (.int .i64 (j:Int)) (by unfold numsR;rw [zza,hj];rfl)
    have z0:=ht.blk.cell 0
    simp only [zzR] at z0
    rw [hlen] at z0
    obtain ⟨cs,hcsb⟩:=ht.frozen
    have z1:=hcsb.frozen (j*8+6)
    have z2:=hcsb.lt
    have z3:=ht.cell ha (q:=6) (by omega) rfl
    have hjn:(j:Int) < (L.length:Int)+1:=by omega
    rw [hsa] at xb4
    have HJ:=zzA hj
    have HA:=zzA ha
    clear ht hk hLi hcs hcsb hbs hj
    go_wp2_with fail
    go_region
    have hk7:=HKI.out.trans ((RowI.set_k (g:=g) (i:=j*8+6) (n:=L1.length) (c:=cap2) (x:=.int .i64 (L.length:Int))).trans (.of_below (zzb _ _).drew))
    have ht7:=(HTI.out.set_ (x:=.int .i64 (L.length:Int)) (u:=a.put_ L.length a.nth) HA.out (q:=6) (by omega) rfl ⟨rfl,rfl,rfl,rfl,rfl,rfl⟩).drew
    generalize (wl.setCell ⟨g,j*8+6,none⟩ (.int .i64 (L.length:Int))).drew=wz at *
    have HT7:=zzA ht7
    have HK7:=zzA hk7
    have ha7:(Li.set j (a.put_ L.length a.nth))[j]?=some (a.put_ L.length a.nth):=List.getElem?_set_self (by omega)
    clear xb4 y1 z0 z1 z2 z3
    have xb4:=(hk7.nb HX.out).blk.cell 4
    simp only [zzX,zzR] at xb4
    rw [hsa] at xb4
    obtain ⟨bs2,os2,hsa2,-,hcs⟩:=(HS2.out.rki hk7).2.2.2.2 (by omega)
    rw [hsa,zzd,Addr.mk.injEq] at hsa2
    obtain ⟨rfl,rfl,-⟩:=hsa2
    have y1:=hcs i (.int .i64 (j:Int)) (by unfold numsR;rw [zza,HJ.out];rfl)
    have z0:=ht7.blk.cell 0
    simp only [zzR] at z0
    rw [List.length_set,hlen] at z0
    obtain ⟨cs,hcsb⟩:=ht7.frozen
    have z1:=hcsb.frozen (j*8+7)
    have z2:=hcsb.lt
    have z3:=ht7.cell ha7 (q:=7) (by omega) rfl
    clear ht7 hk7 hcs hcsb
    go_wp2_with fail
    go_region
    have hk8:=HK7.out.trans ((RowI.set_k (g:=g) (i:=j*8+7) (n:=L1.length) (c:=cap2) (x:=.int .i64 (i:Int))).trans (.of_below (zzb _ _).drew))
    have ht8:=(HT7.out.set_ (x:=.int .i64 (i:Int)) (u:=a.put_ L.length i) ha7 (q:=7) (by omega) rfl ⟨rfl,rfl,rfl,rfl,rfl,rfl⟩).drew
    rw [List.set_set] at ht8
    generalize (wz.setCell ⟨g,j*8+7,none⟩ (.int .i64 (i:Int))).drew=wy at *
    have HT8:=zzA ht8
    have HK8:=zzA hk8
    clear ht8 hk8 xb4 y1 z0 z1 z2 z3
    go_wp2_with fail
    refine ⟨⟨i+1,by omega,by go_num,?_,HK8.out⟩,by simp [intOf];omega⟩
    have e:setUps L1 L.length (x.subs.take (i+1)) 0=Li.set j (a.put_ L.length i):=by
     rw [List.take_add_one,HJ.out,Option.toList_some,setUps_snoc,←HLI.out,List.length_take,Nat.min_eq_left (by omega),Nat.zero_add]
     unfold upR
     rw [HA.out]
    rw [e]
    exact HT8.out
   ·obtain rfl:i=x.subs.length:=by omega
    have hlt2:¬((x.subs.length:Int) < (x.subs.length:Int)):=by omega
    clear ht hk hLi
    go_wp2_with fail
    go_ret
    have e:Li=putL L x:=by rw [HLI.out,List.take_length,HL1.out];rfl
    have ht:=HTI.out
    rw [hlen,←HN.out] at ht
    rw [e] at ht
    exact ⟨rfl,_,ht,HK0.out.trans (HKF.out.trans HKI.out)⟩
end Go.Proofs.Ytkhkllpdhnmhkaa
namespace Go.Proofs.Ytkhkllpdhnmhkaa
open Go.RowKit Mean
set_option maxRecDepth 100000 in
set_option maxHeartbeats 4000000 in
theorem rrow_any {X:List Nat} {rb:Nat} {v:Value} {L0 L:List NdV} {w:World} (us:List Un) (A:Option Addr) (c:Nat) (h:TbR X rb v L w) (hl:L.length≤1000000000) (hu:BuiltL L0 L us) (hr:RdA w (Fs X rb v w) 1 A us.length c (numsR (us.map Un.ad))) :
  Calls Try.prog 70 #[.pointer (some ⟨rb,0,none⟩),.slice A us.length c] w fun e w'=>∃ v' L' u,e=.returned (.int .i64 (u.ad:Int))∧TbR X rb v' L' w'∧RKI rb v w v' w'∧BuiltL L0 L' [u]∧shU u=rowU (us.map shU):=by
 have hrc:=hr.1
 have hrc2:=hr.2.1
 match us,hu,hr,hrc,hrc2 with
 | [],hu,hr,hrc,hrc2 =>
  have hp:=rput_any rb ⟨1,0,0,none,0,[],none,0,[],false,0,0⟩ v L w h hl RdA.none_ RdA.none_ (by simp)
  simp only [List.length_nil] at hp hrc ⊢
  have HP:=zzA hp
  have HU:=zzA hu
  clear hp hu hr h
  go_enter Try.func70,Try.ntmps70
  go_wp2_with fail
  refine HP.out.mono ?_
  rintro e w' ⟨rfl,v',htb,hk⟩
  simp only []
  go_wp2_with fail
  go_ret
  exact ⟨v',_,.mk L.length 1 [] 0 0 false [],rfl,htb,hk,HU.out.put (x:=⟨1,0,0,none,0,[],none,0,[],false,0,0⟩) (k:=1) rfl rfl,rfl⟩
 | [u],hu,hr,hrc,hrc2 =>
  obtain ⟨b,o,rfl,hb,hc⟩:=hr.2.2.2.2 (by simp)
  have e1:=hc 0 (.int .i64 (u.ad:Int)) rfl
  rw [Nat.add_zero] at e1
  simp only [zzO,List.length_nil] at hrc ⊢
  have H:=zzA h
  have HU:=zzA hu
  clear h hu hr hb hc
  go_enter Try.func70,Try.ntmps70
  go_wp2_with fail
  go_ret
  exact ⟨v,L,u,rfl,H.out,.of_below (zzb _ _),HU.out,rfl⟩
 | u1 :: u2 :: l,hu,hr,hrc,hrc2 =>
  have hp:=rput_any rb ⟨4,0,0,none,0,[],A,c,(u1 :: u2 :: l).map Un.ad,false,0,0⟩ v L w h hl RdA.none_ (by simp only [zzP];exact hr) (fun j hj=>by
   obtain ⟨s,hs,rfl⟩:=List.mem_map.1 hj
   exact (hu.ads s (sub_allU hs)).2)
  simp only [zzP,List.length_nil] at hp
  obtain ⟨us,hus⟩:∃ us,us=u1 :: u2 :: l:=⟨_,rfl⟩
  have hn2:2≤us.length:=by rw [hus];simp
  rw [←hus] at hp hu hr hrc ⊢
  have h0:((us.length:Int)==0)=false:=by rw [beq_eq_false_iff_ne];omega
  have h1:((us.length:Int)==1)=false:=by rw [beq_eq_false_iff_ne];omega
  have HP:=zzA hp
  have HU:=zzA hu
  have HUS:=zzA hus
  clear hp hu hr h hus
  go_enter Try.func70,Try.ntmps70
  go_wp2_with fail
  refine HP.out.mono ?_
  rintro e w' ⟨rfl,v',htb,hk⟩
  simp only []
  go_wp2_with fail
  go_ret
  refine ⟨v',_,.mk L.length 4 [] 0 0 false us,rfl,htb,hk,HU.out.put (x:=⟨4,0,0,none,0,[],A,c,us.map Un.ad,false,0,0⟩) (k:=4) rfl rfl,?_⟩
  rw [HUS.out]
  show Us.mk 4 [] 0 0 false (shUs (u1 :: u2 :: l))=_
  rw [shUs_map];rfl
end Go.Proofs.Ytkhkllpdhnmhkaa
namespace Go.Proofs.Ytkhkllpdhnmhkaa
open Go.RowKit Mean
def UnfOk6 (t:Ta):Prop:=∀ (X:List Nat) (rb:Nat) (v:Value) (L:List NdV) (w:World),RT w (Fs X rb v w) t→TbR X rb v L w→L.length+szU (unfR t.tr)≤1000000000 →
  Calls Try.prog 25 #[.pointer (some ⟨rb,0,none⟩),t.val] w fun e w'=>∃ v' L' u,e=.returned (.int .i64 (u.ad:Int))∧TbR X rb v' L' w'∧RKI rb v w v' w'∧BuiltL L L' [u]∧shU u=unfR t.tr
theorem info_intR:(Try.prog.info? 3).map (fun i=>(i.zero,i.size,i.bytes))=some (some (.int .i64 0),1,8):=by kernel_rfl
theorem szU_pos:∀ u:Us,1≤szU u
 | .mk _ _ _ _ _ _=>by rw [szU];omega
set_option maxRecDepth 100000 in
set_option maxHeartbeats 4000000 in
theorem ropt_any {X0:List Nat} {rb:Nat} (k:Int) (r:List (Int × Int)) (ra:Option Addr) (rc:Nat) (ast:Int) (l:List Ta) (sa:Option Addr) (sc:Nat) (mn mx:Int) (z:Bool) (ix:Int) (nm:ByteArray) (z0:Bool) (H0:UnfOk6 (Ta.mk k r ra rc ast l sa sc mn mx z ix nm)):∀ (n:Nat) (X:List Nat) (v:Value) (L:List NdV) (w:World),RT w (Fs X rb v w) (Ta.mk k r ra rc ast l sa sc mn mx z ix nm)→TbR X rb v L w→L.length+szU (optU z0 (unfR (Ta.mk k r ra rc ast l sa sc mn mx z ix nm).tr) n)≤1000000000 →
  Calls Try.prog 69 #[.pointer (some ⟨rb,0,none⟩),(Ta.mk k r ra rc ast l sa sc mn mx z ix nm).val,.int .i64 ((n+1:Nat):Int),.bool z0] w fun e w'=>∃ v' L' u,e=.returned (.int .i64 (u.ad:Int))∧TbR X rb v' L' w'∧RKI rb v w v' w'∧BuiltL L L' [u]∧shU u=optU z0 (unfR (Ta.mk k r ra rc ast l sa sc mn mx z ix nm).tr) n:=by
 intro n
 induction n with
 | zero =>
  intro X v L w hrt htb hsz
  have hb0:Below w.heap.size w (w.alloc (.cells #[.int .i64 k,.slice ra r.length rc,.int .i64 ast,.slice sa l.length sc,.int .i64 mn,.int .i64 mx,.bool z,.int .i64 ix,.string nm] 25)):=(zzb _ _).alloc (zzF _) _
  have HT0:=zzA (htb.below hb0)
  have hk0:RKI rb v w v (w.alloc (.cells #[.int .i64 k,.slice ra r.length rc,.int .i64 ast,.slice sa l.length sc,.int .i64 mn,.int .i64 mx,.bool z,.int .i64 ix,.string nm] 25)):=.of_below hb0
  have HK0:=zzA hk0
  have HRT0:=zzA (hrt.rki hk0)
  have hbl:=Blk.new w 25 [.int .i64 k,.slice ra r.length rc,.int .i64 ast,.slice sa l.length sc,.int .i64 mn,.int .i64 mx,.bool z,.int .i64 ix,.string nm]
  obtain ⟨xr0,xr1,xr2,xr3,xr4,xr5,xr6,xr7,xr8⟩:=bc9 (hbl)
  have HU:=zzA H0
  obtain ⟨tt,htt⟩:∃ tt,tt=unfR (Ta.mk k r ra rc ast l sa sc mn mx z ix nm).tr:=⟨_,rfl⟩
  unfold UnfOk6 at HU
  rw [←htt] at HU hsz ⊢
  simp only [Ta.val,Ta.vals] at HU
  simp only [Ta.val,Ta.vals]
  have hsz2:szU (optU z0 tt 0)=szU tt+1:=by rw [szU_opt];omega
  have hsz3:L.length+szU tt+1≤1000000000:=by omega
  clear hrt htb hbl hb0 hk0 hsz hsz2 htt
  go_enter Try.func69,Try.ntmps69
  go_wp2_with fail
  generalize (w.alloc (.cells #[.int .i64 k,.slice ra r.length rc,.int .i64 ast,.slice sa l.length sc,.int .i64 mn,.int .i64 mx,.bool z,.int .i64 ix,.string nm] 25))=w0 at *
  refine (HU.out X rb v L w0 HRT0.out HT0.out (by omega)).mono ?_
  rintro e w1 ⟨v1,L1,u1,rfl,ht1,hk1,hb1,hs1⟩
  have HT1:=zzA ht1
  have HK1:=zzA (HK0.out.trans hk1)
  have HB1:=zzA hb1
  have HS1:=zzA hs1
  have HA1:=zzA (Acc.single ht1 u1.ad)
  have hbw:Below w1.heap.size w1 (w1.alloc (.cells #[.int .i64 (u1.ad:Int)] 3)):=(zzb _ _).alloc (zzF _) _
  have HKW:=zzA (show RKI rb v1 w1 v1 (w1.alloc (.cells #[.int .i64 (u1.ad:Int)] 3)) from .of_below hbw)
  have hL1:L1.length≤1000000000:=by have:=hb1.len;rw [allU_one,all_len,hs1] at this;omega
  clear ht1 hk1 hb1 hs1 hbw xr0 xr1 xr2 xr3 xr4 xr5 xr6 xr7 xr8
  simp only []
  go_wp2_with fail
  generalize hw2:(w1.alloc (.cells #[.int .i64 (u1.ad:Int)] 3))=w2 at *
  obtain ⟨ht2,hr2⟩:=Acc.rda (l:=[u1.ad]) HA1.out
  refine (rrow_any [u1] (some ⟨w1.heap.size,0,none⟩) 1 ht2 hL1 HB1.out hr2).mono ?_
  rintro e w3 ⟨v3,L3,u3,rfl,ht3,hk3,hb3,hs3⟩
  have HT3:=zzA ht3
  have HK3:=zzA (HK1.out.trans (HKW.out.trans hk3))
  have HB3:=zzA hb3
  have HS3:=zzA (show shU u3=shU u1 from hs3)
  have HA3:=zzA (Acc.single ht3 u3.ad)
  have hbw:Below w3.heap.size w3 (w3.alloc (.cells #[.int .i64 (u3.ad:Int)] 3)):=(zzb _ _).alloc (zzF _) _
  have HKW3:=zzA (show RKI rb v3 w3 v3 (w3.alloc (.cells #[.int .i64 (u3.ad:Int)] 3)) from .of_below hbw)
  have hL3:L3.length≤1000000000:=by have:=hb3.len;rw [allU_one,all_len,HS3.out,HS1.out] at this;omega
  clear ht3 hk3 hb3 hs3 hbw ht2 hr2 hw2
  simp only []
  go_wp2_with fail
  generalize (w3.alloc (.cells #[.int .i64 (u3.ad:Int)] 3))=w4 at *
  obtain ⟨ht4,hr4⟩:=Acc.rda (l:=[u3.ad]) HA3.out
  have hp:=rput_any rb ⟨103,0,0,none,0,[],some ⟨w3.heap.size,0,none⟩,1,[u3.ad],z0,0,0⟩ v3 L3 w4 ht4 hL3 RdA.none_ hr4 (fun j hj=>by rw [zzE] at hj;rw [hj];exact (HB3.out.ads u3 (by rw [allU_one];exact self_all u3)).2)
  simp only [zzO,List.length_nil,Nat.zero_add] at hp
  refine hp.mono ?_
  rintro e w5 ⟨rfl,v5,ht5,hk5⟩
  simp only []
  go_wp2_with fail
  go_ret
  refine ⟨v5,_,.mk L3.length (-1) [] 0 0 z0 [u3],rfl,ht5,HK3.out.trans (HKW3.out.trans hk5),HB3.out.put (x:=⟨103,0,0,none,0,[],some ⟨w3.heap.size,0,none⟩,1,[u3.ad],z0,0,0⟩) (k:=-1) rfl rfl,?_⟩
  show Us.mk (-1) [] 0 0 z0 (shUs [u3])=loopU (-1) z0 tt
  rw [shUs,shUs,HS3.out,HS1.out];rfl
 | succ n ih =>
  intro X v L w hrt htb hsz
  have hb0:Below w.heap.size w (w.alloc (.cells #[.int .i64 k,.slice ra r.length rc,.int .i64 ast,.slice sa l.length sc,.int .i64 mn,.int .i64 mx,.bool z,.int .i64 ix,.string nm] 25)):=(zzb _ _).alloc (zzF _) _
  have HT0:=zzA (htb.below hb0)
  have hk0:RKI rb v w v (w.alloc (.cells #[.int .i64 k,.slice ra r.length rc,.int .i64 ast,.slice sa l.length sc,.int .i64 mn,.int .i64 mx,.bool z,.int .i64 ix,.string nm] 25)):=.of_below hb0
  have HK0:=zzA hk0
  have HRT0:=zzA (hrt.rki hk0)
  have hnb:=htb.new 25 [.int .i64 k,.slice ra r.length rc,.int .i64 ast,.slice sa l.length sc,.int .i64 mn,.int .i64 mx,.bool z,.int .i64 ix,.string nm]
  have hbl:=hnb.blk
  have HNB:=zzA hnb
  obtain ⟨xr0,xr1,xr2,xr3,xr4,xr5,xr6,xr7,xr8⟩:=bc9 (hbl)
  have HU:=zzA H0
  obtain ⟨tt,htt⟩:∃ tt,tt=unfR (Ta.mk k r ra rc ast l sa sc mn mx z ix nm).tr:=⟨_,rfl⟩
  unfold UnfOk6 at HU
  rw [←htt] at HU hsz ih ⊢
  obtain ⟨kk,hkk⟩:∃ kk:Int,kk=((n+1+1:Nat):Int):=⟨_,rfl⟩
  rw [←hkk]
  rw [show ((n+1:Nat):Int)=kk - 1 from by omega] at ih
  have HIH:=zzA ih
  simp only [Ta.val,Ta.vals] at HU HIH
  simp only [Ta.val,Ta.vals]
  have hsz2:szU (optU z0 tt (n+1))=szU tt+szU (optU z0 tt n)+2:=by
   rw [szU_opt,szU_opt,Nat.add_mul (n+1)];omega
  have hsz4:szU (optU z0 tt n)=(n+1)*szU tt+2*n+1:=szU_opt _ _ _
  have hsz3:L.length+szU tt+szU (optU z0 tt n)+2≤1000000000:=by omega
  have hkb:1 < kk∧kk≤1000000000:=by omega
  have hkw:IntKind.i64.wrap (kk - 1)=kk - 1:=by rw [IntKind.wrap_i64];omega
  clear hrt htb hbl hb0 hk0 hsz hsz2 htt hsz4 ih hnb hkk
  go_enter Try.func69,Try.ntmps69
  go_wp2_with fail
  generalize (w.alloc (.cells #[.int .i64 k,.slice ra r.length rc,.int .i64 ast,.slice sa l.length sc,.int .i64 mn,.int .i64 mx,.bool z,.int .i64 ix,.string nm] 25))=w0 at *
  refine (HU.out X rb v L w0 HRT0.out HT0.out (by omega)).mono ?_
  rintro e w1 ⟨v1,L1,u1,rfl,ht1,hk1,hb1,hs1⟩
  have HK1:=zzA (HK0.out.trans hk1)
  have HB1:=zzA hb1
  have HS1:=zzA hs1
  have HA1:=zzA (Acc.single ht1 u1.ad)
  have hbw:Below w1.heap.size w1 (w1.alloc (.cells #[.int .i64 (u1.ad:Int)] 3)):=(zzb _ _).alloc (zzF _) _
  have hkw2:RKI rb v1 w1 v1 (w1.alloc (.cells #[.int .i64 (u1.ad:Int)] 3)):=.of_below hbw
  have HKW:=zzA hkw2
  have HRT2:=zzA ((HRT0.out.rki hk1).free (X':=[w1.heap.size]++X) (Kept.of_below (L:=[]) hbw) (by simp) (fun x hx=>by
   rcases zzM.1 hx with hx | hx
   ·exact .inr (by rw [zzE.1 hx];exact zzF _)
   ·exact .inl hx))
  have HNB2:=zzA (hkw2.nb (hk1.nb HNB.out))
  have hn:=HNB2.out.blk
  obtain ⟨xs0,xs1,xs2,xs3,xs4,xs5,xs6,xs7,xs8⟩:=bc9 (hn)
  have hL1:L1.length=L.length+szU tt:=by have:=hb1.len;rw [allU_one,all_len,hs1] at this;omega
  clear ht1 hk1 hb1 hs1 hbw hkw2 hn xr0 xr1 xr2 xr3 xr4 xr5 xr6 xr7 xr8
  simp only []
  go_wp2_with fail
  generalize hw2:(w1.alloc (.cells #[.int .i64 (u1.ad:Int)] 3))=w2 at *
  refine (HIH.out ([w1.heap.size]++X) v1 L1 w2 HRT2.out HA1.out.tb (by omega)).mono ?_
  rintro e w3 ⟨v3,L3,u3,rfl,ht3,hk3,hb3,hs3⟩
  have HK3:=zzA (HK1.out.trans (HKW.out.trans hk3))
  have HB3:=zzA (HB1.out.snoc hb3)
  have HS3:=zzA hs3
  have hac:=HA1.out.step hk3 ht3
  have hbw:Below w3.heap.size w3 (w3.alloc (.cells #[.int .i64 (u3.ad:Int)] 3)):=(zzb _ _).alloc (zzF _) _
  have HAC:=zzA (hac.below hbw)
  have HKW3:=zzA (show RKI rb v3 w3 v3 (w3.alloc (.cells #[.int .i64 (u3.ad:Int)] 3)) from .of_below hbw)
  have hL3:L3.length=L1.length+szU (optU z0 tt n):=by have:=hb3.len;rw [allU_one,all_len,hs3] at this;omega
  have hna:=new_atT w3 3 [.int .i64 (u3.ad:Int)]
  obtain ⟨i1,hi1,hz10,hz11,hz12⟩:=info_parts info_intR
  have ho2:=HAC.out.own
  clear ht3 hk3 hb3 hs3 hbw hw2 hac xs0 xs1 xs2 xs3 xs4 xs5 xs6 xs7 xs8
  simp only []
  go_wp2_with (at_builtin;go_loud (refine wpList_append_lies _ rfl (.tmp 16) (.tmp 23) 26 rfl 0 3 i1 (.int .i64 0) 1 8 Try.underlying26 hi1 hz10 hz11 hz12 rfl (by decide) (.slice (some ⟨w1.heap.size,0,none⟩) 1 1) 1 (numsR [u1.ad]) rfl ho2 ⟨w3.heap.size,0,none⟩ 1 1 [.int .i64 (u3.ad:Int)] rfl rfl hna (by simp [Value.oneCell']) (by decide) (by decide) (by decide) (zzZ _) _ rfl ?_);intro g2 cap2 w5 hou2 hg2 hat2 hlt2;have HA5:=zzA (HAC.out.grown (V':=.slice (some ⟨g2,0,none⟩) 2 cap2) (l':=[u1.ad,u3.ad]) hg2 hou2 (fun g hg=>by rw [show g2=g from by simpa [Value.ownBlock] using hg] at hat2;exact at_old (zzF _) hat2));have HK5:=zzA ((HK3.out.trans HKW3.out).far hg2 (fun g hg=>by rw [show g=w1.heap.size from by simpa [Value.ownBlock,eq_comm] using hg];exact HK1.out.kept.size));clear hou2 hg2 hat2 hlt2)
  have hbr:BuiltL L L3 [u1,u3]:=HB3.out
  obtain ⟨ht5,hr5⟩:=Acc.rda (l:=[u1.ad,u3.ad]) HA5.out
  refine (rrow_any [u1,u3] (some ⟨g2,0,none⟩) cap2 ht5 (by omega) hbr hr5).mono ?_
  rintro e w6 ⟨v6,L6,u6,rfl,ht6,hk6,hb6,hs6⟩
  have HK6:=zzA (HK5.out.trans hk6)
  have HB6:=zzA hb6
  have hs6':shU u6=catU [tt,optU z0 tt n]:=by rw [hs6];show catU [shU u1,shU u3]=_;rw [HS1.out,HS3.out]
  have HS6:=zzA hs6'
  have HA6:=zzA (Acc.single ht6 u6.ad)
  have hbw:Below w6.heap.size w6 (w6.alloc (.cells #[.int .i64 (u6.ad:Int)] 3)):=(zzb _ _).alloc (zzF _) _
  have HKW6:=zzA (show RKI rb v6 w6 v6 (w6.alloc (.cells #[.int .i64 (u6.ad:Int)] 3)) from .of_below hbw)
  have hL6:L6.length≤1000000000:=by have:=hb6.len;rw [allU_one,all_len,hs6',catU,szU,szUs,szUs,szUs] at this;omega
  clear ht6 hk6 hb6 hs6 hbw ht5 hr5 hbr hs6'
  simp only []
  go_wp2_with fail
  generalize (w6.alloc (.cells #[.int .i64 (u6.ad:Int)] 3))=w7 at *
  obtain ⟨ht7,hr7⟩:=Acc.rda (l:=[u6.ad]) HA6.out
  have hp:=rput_any rb ⟨103,0,0,none,0,[],some ⟨w6.heap.size,0,none⟩,1,[u6.ad],z0,0,0⟩ v6 L6 w7 ht7 hL6 RdA.none_ hr7 (fun j hj=>by rw [zzE] at hj;rw [hj];exact (HB6.out.ads u6 (by rw [allU_one];exact self_all u6)).2)
  simp only [zzO,List.length_nil,Nat.zero_add] at hp
  refine hp.mono ?_
  rintro e w8 ⟨rfl,v8,ht8,hk8⟩
  simp only []
  go_wp2_with fail
  go_ret
  refine ⟨v8,_,.mk L6.length (-1) [] 0 0 z0 [u6],rfl,ht8,HK6.out.trans (HKW6.out.trans hk8),HB6.out.put (x:=⟨103,0,0,none,0,[],some ⟨w6.heap.size,0,none⟩,1,[u6.ad],z0,0,0⟩) (k:=-1) rfl rfl,?_⟩
  show Us.mk (-1) [] 0 0 z0 (shUs [u6])=optU z0 tt (n+1)
  rw [shUs,shUs,HS6.out];rfl
end Go.Proofs.Ytkhkllpdhnmhkaa
namespace Go.Proofs.Ytkhkllpdhnmhkaa
open Go.RowKit
theorem enters6 {P:Program} {f:FuncId} {fn:Func} (h:P.funcs[f]?=some fn) (h1:(fn.name== "runtime.NumGoroutine")=false) (h2:fn.body.isNone=false):∀ args u,(callFunc f args).run P u=.ok (.enter f args) u:=by
 intro args u
 unfold callFunc
 have h1':¬(fn.name= "runtime.NumGoroutine"):=by simpa using h1
 have h2':¬(fn.body=none):=by intro e;rw [e] at h2;cases h2
 simp [go_sem,h,h1',h2']
theorem step_call6 {P:Program} {ops:Array Oper} {o:Oper} {a:Act} {w:World} {K:Act→World→Prop} {Q:Exit→Act→World→Prop} {E:Prop} (hgd:o.guard=none) (f:FuncId) (x y:Operand) (t t':TypeId)
  (ho:o.op=.call { callee:=.value (.func f),args:=#[x,y],argTypes:=#[t,t'] }) (v v':Value) (hx:a.eval x=v) (hy:a.eval y=v') (he:∀ args u,(callFunc f args).run P u=.ok (.enter f args) u)
  (h:Calls P f #[v,v'] w fun e w'=>∃ r,e=.returned r∧K (a.put o.dst r) w'):if Region.wanted o (yielded ops a.tmps)=true then Oper.wp P o a w K Q else E:=by
 have hw:Region.wanted o (yielded ops a.tmps)=true:=by simp [Region.wanted,hgd]
 rw [if_pos hw]
 unfold Oper.wp
 have hrun:(execOp a.eval o).run P w=.ok (.enter f #[v,v']) w:=by
  obtain ⟨dst,op,type,pos,after,guard⟩:=o
  simp only [] at ho
  subst ho
  show (callFunc f (#[]++(#[x,y]:Array Operand).map a.eval++#[])).run P w=_
  rw [he,←hx,←hy]
  simp
 rw [hrun,Oper.upon_enter]
 refine h.mono ?_
 rintro e w' ⟨r,rfl,hk⟩
 exact hk
theorem step_callv6 {P:Program} {ops:Array Oper} {o:Oper} {a:Act} {w:World} {K:Act→World→Prop} {Q:Exit→Act→World→Prop} {E:Prop} (hgd:o.guard=none) (f:FuncId) (y:Operand) (xs:Array Operand) (ts:Array TypeId) (caps:Array Value)
  (ho:o.op=.call { callee:=.value y,args:=xs,argTypes:=ts }) (hy:a.eval y=.func (Fn.func f) #[] caps) (vs:Array Value) (hx:xs.map a.eval=vs) (he:∀ args u,(callFunc f args).run P u=.ok (.enter f args) u)
  (h:Calls P f (vs++caps) w fun e w'=>∃ r,e=.returned r∧K (a.put o.dst r) w'):if Region.wanted o (yielded ops a.tmps)=true then Oper.wp P o a w K Q else E:=by
 have hw:Region.wanted o (yielded ops a.tmps)=true:=by simp [Region.wanted,hgd]
 rw [if_pos hw]
 unfold Oper.wp
 have hrun:(execOp a.eval o).run P w=.ok (.enter f (vs++caps)) w:=by
  obtain ⟨dst,op,type,pos,after,guard⟩:=o
  simp only [] at ho
  subst ho
  simp only [execOp,resolve,hy,Sem.run_bind,hx]
  show (callFunc f (#[]++vs++caps)).run P w=_
  rw [he]
  simp
 rw [hrun,Oper.upon_enter]
 refine h.mono ?_
 rintro e w' ⟨r,rfl,hk⟩
 exact hk
end Go.Proofs.Ytkhkllpdhnmhkaa
