/- simplify.simple's closure each, with the closure that joins alternatives. -/
import Derived.Deep.RegionHeldLaw
import Derived.Test.YtgkclnmmjedmkaaGreatP34
set_option maxRecDepth 100000
set_option maxHeartbeats 2000000
namespace Go.Proofs.YtgkclnmmjedmkaaGreat
open Go.RowKit Tr
theorem each_alt (l:List Ta) (ih:∀ u∈l,BD u) (S:Nat→Prop) (B Bo:Nat) (X:List Nat) (rb:Nat) (v0:Value) (A:Option Addr) (c:Nat) (w:World) (bc ec:Nat)
  (hN:RdA w S 9 A l.length c (rowT l)) (hL:∀ u∈l,RT w S u) (hS:∀ b,S b→b < rb) (hrow:RowV B Bo X rb 25 f2 v0 [] w) (hB:B≤rb) (hBo:Bo≤w.heap.size) (hrB:rb≤Bo) (hX:∀ x∈X,x < w.heap.size) (hcel:CEL bc ec w) (hbc:bc < rb) (hec:ec < rb) (hll:l.length≤1048576)
  (hal:∀ u∈l,allB u.tr=true) (hsz:∀ u∈l,size (simpleS u.tr)≤200000) (hp:(altsT (trs l)).length≤200000) :
  Calls Tryz.prog 70 #[.slice A l.length c,(.func (Fn.func 74) #[] #[.pointer (some ⟨rb,0,none⟩)]),.pointer (some ⟨bc,0,none⟩)] w fun e w'=>e=.returned (.tuple #[])∧∃ (v:Value) (us:List Ta),RowV B Bo X rb 25 f2 v us w'∧trs us=altsT (trs l)∧Below rb w w':=by
 have hsc:=hN.1
 have hsc2:=hN.2.1
 have HIH:=zzA ih
 have HN:=zzA hN
 have HL:=zzA hL
 have HSS:=zzA hS
 have HROW:=zzA hrow
 have HX:=zzA hX
 have HCEL:=zzA hcel
 have HAL:=zzA hal
 have HSZ:=zzA hsz
 have HP:=zzA hp
 have hrw:=hrow.blk.lt
 clear ih hN hL hS hrow hX hcel hal hsz hp
 go_enter Tryz.func70,Tryz.ntmps70
 go_wp2_with fail
 go_loopw [9] (fun iv wr=>∃ (i:Nat) (v:Value) (us:List Ta),i≤l.length∧iv=.int .i64 (i:Int)∧trs us=altsT (trs (l.take i))∧RowV B Bo X rb 25 f2 v us wr∧Below rb w wr) (fun iv _=>l.length - (intOf iv).toNat)
 case atStart=>exact ⟨0,v0,[],zzZ _,rfl,rfl,HROW.out,zzb _ _⟩
 case round =>
  obtain ⟨i,v,us,hi,rfl,htu,hr,hb⟩:=hrel
  have HR:=zzA hr
  have HTU:=zzA htu
  have HB:=zzA hb
  have hLN:us.length≤200000:=by rw [←trs_length,htu];exact zzU (altsT_le l i) HP.out
  have hrwr:=hr.blk.lt
  have hwwr:=hb.size
  clear hr htu hb
  by_cases hlt:i < l.length
  ·have hlt2:(i:Int) < (l.length:Int):=by omega
   obtain ⟨b,off,rfl,hSb,_⟩:=HN.out.2.2.2.2 (by omega)
   obtain ⟨u,hu⟩:∃ u,l[i]?=some u:=⟨_,zzJ hlt⟩
   have hum:u∈l:=zzL hu
   have hcell:∀ j,j < 9→wr.cell? ⟨b,off+i*9+j,none⟩=u.vals[j]?:=fun j hj=>by
    rw [zzy]
    rw [←HN.out.node hu hj]
    exact (HB.out.cell (p:=⟨b,off+(i*9+j),none⟩) (HSS.out b hSb))
   have hba:Below wr.heap.size wr (wr.alloc (.cells u.vals.toArray 25)):=(zzb _ _).alloc (zzF _) _
   have hBA:Below rb w (wr.alloc (.cells u.vals.toArray 25)):=HB.out.trans (hba.mono (zzo hrwr))
   have hcela:=HCEL.out.below hBA hbc hec
   have hRK:=HIH.out u hum S (wr.alloc (.cells u.vals.toArray 25)) bc ec ((HL.out u hum).below HSS.out hBA) (fun b hb=>zzQ (HSS.out b hb) (zzU (zzo hrwr) hba.size)) hcela (HAL.out u hum) (HSZ.out u hum)
   have HGOOD:=zzA (simple_good _ (HAL.out u hum)).1
   have HTK:=zzA (take_trs hu)
   have HWA:=zzA hba
   have HBA:=zzA hBA
   have ecell:(wr.alloc (.cells u.vals.toArray 25)).cell? ⟨bc,0,none⟩=some (.func (Fn.func 71) #[] #[.pointer (some ⟨bc,0,none⟩),.pointer (some ⟨ec,0,none⟩)]):=hcela.1
   clear hba hBA hcela hu hum
   obtain ⟨st,hst⟩:∃ q,q=simpleS u.tr:=⟨_,rfl⟩
   obtain ⟨ut,hut⟩:∃ q,q=u.tr:=⟨_,rfl⟩
   rw [←hst] at hRK HGOOD
   rw [←hut] at HTK hst
   have HST:=zzA hst
   clear hst hut
   cases u with
   | mk k' r' ra' rc' a' l' sa' sc' n' m' z' i' s' =>
   simp only [Ta.vals] at hcell HWA HBA ecell
   simp only [Ta.val,Ta.vals] at hRK
   have c0:=hcell 0 (by omega)
   have c1:=hcell 1 (by omega)
   have c2:=hcell 2 (by omega)
   have c3:=hcell 3 (by omega)
   have c4:=hcell 4 (by omega)
   have c5:=hcell 5 (by omega)
   have c6:=hcell 6 (by omega)
   have c7:=hcell 7 (by omega)
   have c8:=hcell 8 (by omega)
   simp only [zzR,zzX,Nat.add_zero] at c0 c1 c2 c3 c4 c5 c6 c7 c8
   have HIN:=zzA hRK
   clear hcell hRK
   go_wp2_with fail
   refine HIN.out.mono ?_
   rintro e w5 ⟨u5,rfl,htr5,hrt5,hb5⟩
   have hbr5:=HWA.out.trans (hb5.mono HWA.out.size)
   have hs5:=hbr5.size
   have HR5:=zzA (show RowV B Bo X rb 25 f2 v us w5 from ⟨HR.out.blk.below hbr5 HR.out.blk.lt,own_below HR.out.own hbr5,fun q hq=>(HR.out.els q hq).fr_below hbr5,HR.out.sep⟩)
   have HRT5:=zzA (hrt5.fr_in (B:=B) (L:=X++rb :: v.ownBlock.toList) (by have:=HWA.out.size;omega) (by
    have:=HWA.out.size
    intro x hx
    rcases zzM.1 hx with hx | hx
    ·have:=HX.out x hx;omega
    ·rcases zzN.1 hx with rfl | hx
     ·omega
     ·have:=(HR.out.own.lt x (by simpa using hx)).2;omega))
   have HB5:=zzA (HB.out.trans (hbr5.mono (zzo hrwr)))
   have HTR5:=zzA htr5
   clear hbr5 hb5 htr5 hrt5 c0 c1 c2 c3 c4 c5 c6 c7 c8 ecell HIN
   obtain ⟨k2,r2,ra2,rc2,a2,l2,sa2,sc2,n2,m2,z2,i2,s2⟩:=u5
   simp only []
   go_wp2_with fail
   refine (alt_any B Bo X rb v us (Ta.mk k2 r2 ra2 rc2 a2 l2 sa2 sc2 n2 m2 z2 i2 s2) w5 HR5.out HRT5.out (by omega) (by omega) (fun hk=>by rw [Ta.subs_len,HTR5.out];rw [HTR5.out] at hk;have:=subs_pos5 HGOOD.out hk;omega)).mono ?_
   rintro e w6 ⟨rfl,v6,hrow6,hk6,hv6⟩
   have HR6:=zzA hrow6
   have HB6:=zzA (zyH HB5.out hk6 (by
    intro x hx
    rcases zzN.1 hx with rfl | hx
    ·exact zzF _
    ·have:=(HR.out.own.lt x (by simpa using hx)).1;omega) (by omega))
   clear hrow6 hk6 hv6
   simp only []
   go_wp2_with fail
   go_roundw
   case rel=>exact ⟨i+1,v6,_,by omega,by go_num,by rw [trs_append,putB_tr,HTU.out,HTR5.out,HTK.out,altsT_append,altsT_one,HST.out],HR6.out,HB6.out⟩
   case measure=>simp [intOf];omega
  ·obtain rfl:i=l.length:=by omega
   have hlt2:¬((l.length:Int) < (l.length:Int)):=by omega
   go_wp2_with fail
   go_end0
   exact ⟨rfl,v,us,HR.out,by rw [HTU.out,List.take_length],HB.out⟩
theorem bd_leaf (k:Int) (r:List (Int × Int)) (ra:Option Addr) (rc:Nat) (ast:Int) (l:List Ta) (sa:Option Addr) (sc:Nat) (mn mx:Int) (z:Bool) (ix:Int) (nm:ByteArray) (S:Nat→Prop) (w:World) (bc ec:Nat) (h:RT w S (.mk k r ra rc ast l sa sc mn mx z ix nm)) (hS:∀ b,S b→b < w.heap.size) (hcel:CEL bc ec w) (h7:(k==7)=false) (h4:(k==4)=false) (h5:(k==5)=false) (h6:(k==6)=false) :
  Calls Tryz.prog 71 #[(Ta.mk k r ra rc ast l sa sc mn mx z ix nm).val,.pointer (some ⟨bc,0,none⟩),.pointer (some ⟨ec,0,none⟩)] w fun e w'=>∃ u:Ta,e=.returned u.val∧u.tr=(Ta.mk k r ra rc ast l sa sc mn mx z ix nm).tr∧RT w' (Fr w.heap.size [] w') u∧Below w.heap.size w w':=by
 obtain ⟨⟨hR,hrl,hll,hnm⟩,hN,hL⟩:=h.parts
 have hcs:=cs_two w k ra r.length rc ast sa l.length sc mn mx z ix nm
 have hcl:=hcel.below hcs.below hcel.lt.1 hcel.lt.2
 have hbl:=hcel.lt
 have hsc:=hN.1
 have hsc2:=hN.2.1
 have HCS:=zzA hcs
 have HCL:=zzA hcl
 have hCP:=zzA (copied_any _ S _ (h.below hS hcs.below) (fun b hb=>zzQ (hS b hb) hcs.below.size))
 clear h hR hN hL hS hcs hcl hcel
 simp only [Ta.val,Ta.vals] at hCP ⊢
 go_enter Tryz.func71,Tryz.ntmps71
 go_wp2_with fail
 generalize ((w.alloc (.cells #[.int .i64 k,.slice ra r.length rc,.int .i64 ast,.slice sa l.length sc,.int .i64 mn,.int .i64 mx,.bool z,.int .i64 ix,.string nm] 25)).alloc (.cells #[.int .i64 0,.slice none 0 0,.int .i64 0,.slice none 0 0,.int .i64 0,.int .i64 0,.bool false,.int .i64 0,.string ⟨#[]⟩] 25))=w2 at *
 refine hCP.out.mono ?_
 rintro e w5 ⟨u5,rfl,htr5,hrt5,hb5⟩
 have HC5:=zzA (HCS.out.bel hb5)
 have HRT5:=zzA (hrt5.fr_in (B:=w.heap.size) (L:=[w.heap.size+1]) (by have:=HCS.out.below.size;omega) (by intro x hx;simp at hx;have:=HCS.out.res.lt;omega))
 have HTR5:=zzA htr5
 clear htr5 hrt5 hb5 hCP
 obtain ⟨k2,r2,ra2,rc2,a2,l2,sa2,sc2,n2,m2,z2,i2,s2⟩:=u5
 obtain ⟨q0,q1,q2,q3,q4,q5,q6,q7,q8⟩:=bc9 (HC5.out.res)
 have fz0:=HC5.out.res.frozen 0
 have fz1:=HC5.out.res.frozen 1
 have fz2:=HC5.out.res.frozen 2
 have fz3:=HC5.out.res.frozen 3
 have fz4:=HC5.out.res.frozen 4
 have fz5:=HC5.out.res.frozen 5
 have fz6:=HC5.out.res.frozen 6
 have fz7:=HC5.out.res.frozen 7
 have fz8:=HC5.out.res.frozen 8
 have fz9:=HC5.out.res.lt
 simp only []
 go_wp2_with fail
 refine zzm (node_ret rfl _ _ (w.heap.size+1) (Ta.mk k2 r2 ra2 rc2 a2 l2 sa2 sc2 n2 m2 z2 i2 s2) rfl (show Blk (((((((((w5.setCell ⟨w.heap.size+1,0,none⟩ (.int .i64 k2)).setCell ⟨w.heap.size+1,1,none⟩ (.slice ra2 r2.length rc2)).setCell ⟨w.heap.size+1,2,none⟩ (.int .i64 a2)).setCell ⟨w.heap.size+1,3,none⟩ (.slice sa2 l2.length sc2)).setCell ⟨w.heap.size+1,4,none⟩ (.int .i64 n2)).setCell ⟨w.heap.size+1,5,none⟩ (.int .i64 m2)).setCell ⟨w.heap.size+1,6,none⟩ (.bool z2)).setCell ⟨w.heap.size+1,7,none⟩ (.int .i64 i2)).setCell ⟨w.heap.size+1,8,none⟩ (.string s2)) (w.heap.size+1) 25 (Ta.mk k2 r2 ra2 rc2 a2 l2 sa2 sc2 n2 m2 z2 i2 s2).vals from (((((((((HC5.out.res.set_ 0 (.int .i64 k2)).set_ 1 (.slice ra2 r2.length rc2)).set_ 2 (.int .i64 a2)).set_ 3 (.slice sa2 l2.length sc2)).set_ 4 (.int .i64 n2)).set_ 5 (.int .i64 m2)).set_ 6 (.bool z2)).set_ 7 (.int .i64 i2)).set_ 8 (.string s2)))) rfl ?_
 refine ⟨Ta.mk k2 r2 ra2 rc2 a2 l2 sa2 sc2 n2 m2 z2 i2 s2,rfl,HTR5.out,(HRT5.out).fr_kept (kept9 w5 (w.heap.size+1) 0 (.int .i64 k2) (.slice ra2 r2.length rc2) (.int .i64 a2) (.slice sa2 l2.length sc2) (.int .i64 n2) (.int .i64 m2) (.bool z2) (.int .i64 i2) (.string s2)) (by simp) (by simp),zyH HC5.out.below (kept9 w5 (w.heap.size+1) 0 (.int .i64 k2) (.slice ra2 r2.length rc2) (.int .i64 a2) (.slice sa2 l2.length sc2) (.int .i64 n2) (.int .i64 m2) (.bool z2) (.int .i64 i2) (.string s2)) (by intro b hb;simp at hb;omega) HC5.out.below.size⟩
theorem CS.low {w:World} {cs:List Value} {wr wq:World} (h:CS w cs wr) (hb:Below (w.heap.size+1+1) wr wq):CS w cs wq :=
 ⟨h.below.trans (hb.mono (by omega)),h.node.below hb (by omega),h.res.below hb (by omega)⟩
theorem bd_cat (k:Int) (r:List (Int × Int)) (ra:Option Addr) (rc:Nat) (ast:Int) (l:List Ta) (sa:Option Addr) (sc:Nat) (mn mx:Int) (z:Bool) (ix:Int) (nm:ByteArray) (S:Nat→Prop) (w:World) (bc ec:Nat) (h:RT w S (.mk k r ra rc ast l sa sc mn mx z ix nm)) (hS:∀ b,S b→b < w.heap.size) (hcel:CEL bc ec w) (h7:(k==7)=false) (h4:(k==4)=true) (ih:∀ u∈l,BD u) (hal:∀ u∈l,allB u.tr=true) (hsz:∀ u∈l,size (simpleS u.tr)≤200000) (hp:(putsT (trs l)).length≤200000) :
  Calls Tryz.prog 71 #[(Ta.mk k r ra rc ast l sa sc mn mx z ix nm).val,.pointer (some ⟨bc,0,none⟩),.pointer (some ⟨ec,0,none⟩)] w fun e w'=>∃ u:Ta,e=.returned u.val∧u.tr=row (putsT (trs l))∧RT w' (Fr w.heap.size [] w') u∧Below w.heap.size w w':=by
 obtain ⟨⟨hR,hrl,hll,hnm⟩,hN,hL⟩:=h.parts
 have hcs:=cs_two w k ra r.length rc ast sa l.length sc mn mx z ix nm
 have hcl:=hcel.below hcs.below hcel.lt.1 hcel.lt.2
 have hbl:=hcel.lt
 have hsc:=hN.1
 have hsc2:=hN.2.1
 have HCS:=zzA hcs
 have HCL:=zzA hcl
 have hs2:((w.alloc (.cells #[.int .i64 k,.slice ra r.length rc,.int .i64 ast,.slice sa l.length sc,.int .i64 mn,.int .i64 mx,.bool z,.int .i64 ix,.string nm] 25)).alloc (.cells #[.int .i64 0,.slice none 0 0,.int .i64 0,.slice none 0 0,.int .i64 0,.int .i64 0,.bool false,.int .i64 0,.string ⟨#[]⟩] 25)).heap.size=w.heap.size+1+1:=by simp
 have hb3:Below (w.heap.size+1+1) ((w.alloc (.cells #[.int .i64 k,.slice ra r.length rc,.int .i64 ast,.slice sa l.length sc,.int .i64 mn,.int .i64 mx,.bool z,.int .i64 ix,.string nm] 25)).alloc (.cells #[.int .i64 0,.slice none 0 0,.int .i64 0,.slice none 0 0,.int .i64 0,.int .i64 0,.bool false,.int .i64 0,.string ⟨#[]⟩] 25)) (((w.alloc (.cells #[.int .i64 k,.slice ra r.length rc,.int .i64 ast,.slice sa l.length sc,.int .i64 mn,.int .i64 mx,.bool z,.int .i64 ix,.string nm] 25)).alloc (.cells #[.int .i64 0,.slice none 0 0,.int .i64 0,.slice none 0 0,.int .i64 0,.int .i64 0,.bool false,.int .i64 0,.string ⟨#[]⟩] 25)).alloc (.cells #[.slice none 0 0] 139)):=(zzb _ _).alloc (by rw [hs2];exact zzF _) _
 have HC3:=zzA (hcs.low hb3)
 have hcl3:=hcl.below hb3 (by omega) (by omega)
 have he:(((w.alloc (.cells #[.int .i64 k,.slice ra r.length rc,.int .i64 ast,.slice sa l.length sc,.int .i64 mn,.int .i64 mx,.bool z,.int .i64 ix,.string nm] 25)).alloc (.cells #[.int .i64 0,.slice none 0 0,.int .i64 0,.slice none 0 0,.int .i64 0,.int .i64 0,.bool false,.int .i64 0,.string ⟨#[]⟩] 25)).alloc (.cells #[.slice none 0 0] 139)).cell? ⟨ec,0,none⟩=some (.func (Fn.func 70) #[] #[.pointer (some ⟨bc,0,none⟩)]):=hcl3.2
 have hs3:(((w.alloc (.cells #[.int .i64 k,.slice ra r.length rc,.int .i64 ast,.slice sa l.length sc,.int .i64 mn,.int .i64 mx,.bool z,.int .i64 ix,.string nm] 25)).alloc (.cells #[.int .i64 0,.slice none 0 0,.int .i64 0,.slice none 0 0,.int .i64 0,.int .i64 0,.bool false,.int .i64 0,.string ⟨#[]⟩] 25)).alloc (.cells #[.slice none 0 0] 139)).heap.size=w.heap.size+1+1+1:=by simp
 have hrow:RowV w.heap.size (w.heap.size+1+1+1) [w.heap.size+1] (w.heap.size+1+1) 139 f1 (.slice none 0 0) [] (((w.alloc (.cells #[.int .i64 k,.slice ra r.length rc,.int .i64 ast,.slice sa l.length sc,.int .i64 mn,.int .i64 mx,.bool z,.int .i64 ix,.string nm] 25)).alloc (.cells #[.int .i64 0,.slice none 0 0,.int .i64 0,.slice none 0 0,.int .i64 0,.int .i64 0,.bool false,.int .i64 0,.string ⟨#[]⟩] 25)).alloc (.cells #[.slice none 0 0] 139)):=by
  have:=zyI ((w.alloc (.cells #[.int .i64 k,.slice ra r.length rc,.int .i64 ast,.slice sa l.length sc,.int .i64 mn,.int .i64 mx,.bool z,.int .i64 ix,.string nm] 25)).alloc (.cells #[.int .i64 0,.slice none 0 0,.int .i64 0,.slice none 0 0,.int .i64 0,.int .i64 0,.bool false,.int .i64 0,.string ⟨#[]⟩] 25)) 139 [.slice none 0 0]
  rw [hs2] at this
  exact ⟨this,World.ownsRow_nil _ _ _ _,by simp,by simp [Value.ownBlock]⟩
 have HROW:=zzA hrow
 have HCL3:=zzA hcl3
 have HN:=zzA ((hN.go fun b hb=>(HC3.out.below.block b (hS b hb)):RdA (((w.alloc (.cells #[.int .i64 k,.slice ra r.length rc,.int .i64 ast,.slice sa l.length sc,.int .i64 mn,.int .i64 mx,.bool z,.int .i64 ix,.string nm] 25)).alloc (.cells #[.int .i64 0,.slice none 0 0,.int .i64 0,.slice none 0 0,.int .i64 0,.int .i64 0,.bool false,.int .i64 0,.string ⟨#[]⟩] 25)).alloc (.cells #[.slice none 0 0] 139)) S 9 sa l.length sc (rowT l)))
 have HL:=zzA (fun u hu=>(hL u hu).below hS HC3.out.below)
 have HSS:=zzA hS
 have HIH:=zzA ih
 have HAL:=zzA hal
 have HSZ:=zzA hsz
 have HP:=zzA hp
 clear h hR hN hL hS hcs hcl hcel hb3 hcl3 hrow ih hal hsz hp
 simp only [Ta.val,Ta.vals]
 go_enter Tryz.func71,Tryz.ntmps71
 go_wp2_with fail
 generalize (((w.alloc (.cells #[.int .i64 k,.slice ra r.length rc,.int .i64 ast,.slice sa l.length sc,.int .i64 mn,.int .i64 mx,.bool z,.int .i64 ix,.string nm] 25)).alloc (.cells #[.int .i64 0,.slice none 0 0,.int .i64 0,.slice none 0 0,.int .i64 0,.int .i64 0,.bool false,.int .i64 0,.string ⟨#[]⟩] 25)).alloc (.cells #[.slice none 0 0] 139))=w3 at *
 refine (each_put l HIH.out S w.heap.size (w.heap.size+1+1+1) [w.heap.size+1] (w.heap.size+1+1) (.slice none 0 0) sa sc w3 bc ec HN.out HL.out (fun b hb=>by have:=HSS.out b hb;omega) HROW.out (by omega) (by omega) (by omega) (by intro x hx;simp at hx;omega) HCL3.out (by omega) (by omega) hll HAL.out HSZ.out HP.out).mono ?_
 rintro e w5 ⟨rfl,v,us,hrow5,htu,hb5⟩
 have HC5:=zzA (HC3.out.low hb5)
 have HR5:=zzA hrow5
 have HTU:=zzA htu
 have hln:us.length≤1048576:=by rw [←trs_length,htu];exact zzU HP.out (by decide)
 clear hrow5 htu hb5
 simp only []
 go_wp2_with fail
 refine (tree_any w.heap.size (w.heap.size+1+1+1) [w.heap.size+1] (w.heap.size+1+1) v us w5 HR5.out (by omega) (by intro x hx;simp at hx;omega) hln).mono ?_
 rintro e w7 ⟨u7,rfl,htr7,hrt7,hb7⟩
 have HC7:=zzA (HC5.out.bel hb7)
 have HRT7:=zzA (hrt7.fr_less (L':=[w.heap.size+1]) (by simp))
 have HTR7:=zzA (htr7.trans (by rw [HTU.out]))
 clear htr7 hrt7 hb7
 obtain ⟨k2,r2,ra2,rc2,a2,l2,sa2,sc2,n2,m2,z2,i2,s2⟩:=u7
 obtain ⟨q0,q1,q2,q3,q4,q5,q6,q7,q8⟩:=bc9 (HC7.out.res)
 have fz0:=HC7.out.res.frozen 0
 have fz1:=HC7.out.res.frozen 1
 have fz2:=HC7.out.res.frozen 2
 have fz3:=HC7.out.res.frozen 3
 have fz4:=HC7.out.res.frozen 4
 have fz5:=HC7.out.res.frozen 5
 have fz6:=HC7.out.res.frozen 6
 have fz7:=HC7.out.res.frozen 7
 have fz8:=HC7.out.res.frozen 8
 have fz9:=HC7.out.res.lt
 simp only [Ta.val,Ta.vals]
 go_wp2_with fail
 refine zzm (node_ret rfl _ _ (w.heap.size+1) (Ta.mk k2 r2 ra2 rc2 a2 l2 sa2 sc2 n2 m2 z2 i2 s2) rfl (show Blk (((((((((w7.setCell ⟨w.heap.size+1,0,none⟩ (.int .i64 k2)).setCell ⟨w.heap.size+1,1,none⟩ (.slice ra2 r2.length rc2)).setCell ⟨w.heap.size+1,2,none⟩ (.int .i64 a2)).setCell ⟨w.heap.size+1,3,none⟩ (.slice sa2 l2.length sc2)).setCell ⟨w.heap.size+1,4,none⟩ (.int .i64 n2)).setCell ⟨w.heap.size+1,5,none⟩ (.int .i64 m2)).setCell ⟨w.heap.size+1,6,none⟩ (.bool z2)).setCell ⟨w.heap.size+1,7,none⟩ (.int .i64 i2)).setCell ⟨w.heap.size+1,8,none⟩ (.string s2)) (w.heap.size+1) 25 (Ta.mk k2 r2 ra2 rc2 a2 l2 sa2 sc2 n2 m2 z2 i2 s2).vals from (((((((((HC7.out.res.set_ 0 (.int .i64 k2)).set_ 1 (.slice ra2 r2.length rc2)).set_ 2 (.int .i64 a2)).set_ 3 (.slice sa2 l2.length sc2)).set_ 4 (.int .i64 n2)).set_ 5 (.int .i64 m2)).set_ 6 (.bool z2)).set_ 7 (.int .i64 i2)).set_ 8 (.string s2)))) rfl ?_
 refine ⟨Ta.mk k2 r2 ra2 rc2 a2 l2 sa2 sc2 n2 m2 z2 i2 s2,rfl,HTR7.out,(HRT7.out).fr_kept (kept9 w7 (w.heap.size+1) 0 (.int .i64 k2) (.slice ra2 r2.length rc2) (.int .i64 a2) (.slice sa2 l2.length sc2) (.int .i64 n2) (.int .i64 m2) (.bool z2) (.int .i64 i2) (.string s2)) (by simp) (by simp),zyH HC7.out.below (kept9 w7 (w.heap.size+1) 0 (.int .i64 k2) (.slice ra2 r2.length rc2) (.int .i64 a2) (.slice sa2 l2.length sc2) (.int .i64 n2) (.int .i64 m2) (.bool z2) (.int .i64 i2) (.string s2)) (by intro b hb;simp at hb;omega) HC7.out.below.size⟩
theorem bd_alt (k:Int) (r:List (Int × Int)) (ra:Option Addr) (rc:Nat) (ast:Int) (l:List Ta) (sa:Option Addr) (sc:Nat) (mn mx:Int) (z:Bool) (ix:Int) (nm:ByteArray) (S:Nat→Prop) (w:World) (bc ec:Nat) (h:RT w S (.mk k r ra rc ast l sa sc mn mx z ix nm)) (hS:∀ b,S b→b < w.heap.size) (hcel:CEL bc ec w) (h7:(k==7)=false) (h4:(k==4)=false) (h5:(k==5)=true) (ih:∀ u∈l,BD u) (hal:∀ u∈l,allB u.tr=true) (hsz:∀ u∈l,size (simpleS u.tr)≤200000) (hp:(altsT (trs l)).length≤200000) :
  Calls Tryz.prog 71 #[(Ta.mk k r ra rc ast l sa sc mn mx z ix nm).val,.pointer (some ⟨bc,0,none⟩),.pointer (some ⟨ec,0,none⟩)] w fun e w'=>∃ u:Ta,e=.returned u.val∧u.tr=altT (altsT (trs l))∧RT w' (Fr w.heap.size [] w') u∧Below w.heap.size w w':=by
 obtain ⟨⟨hR,hrl,hll,hnm⟩,hN,hL⟩:=h.parts
 have hcs:=cs_two w k ra r.length rc ast sa l.length sc mn mx z ix nm
 have hcl:=hcel.below hcs.below hcel.lt.1 hcel.lt.2
 have hbl:=hcel.lt
 have hsc:=hN.1
 have hsc2:=hN.2.1
 have HCS:=zzA hcs
 have HCL:=zzA hcl
 have hs2:((w.alloc (.cells #[.int .i64 k,.slice ra r.length rc,.int .i64 ast,.slice sa l.length sc,.int .i64 mn,.int .i64 mx,.bool z,.int .i64 ix,.string nm] 25)).alloc (.cells #[.int .i64 0,.slice none 0 0,.int .i64 0,.slice none 0 0,.int .i64 0,.int .i64 0,.bool false,.int .i64 0,.string ⟨#[]⟩] 25)).heap.size=w.heap.size+1+1:=by simp
 have hb3:Below (w.heap.size+1+1) ((w.alloc (.cells #[.int .i64 k,.slice ra r.length rc,.int .i64 ast,.slice sa l.length sc,.int .i64 mn,.int .i64 mx,.bool z,.int .i64 ix,.string nm] 25)).alloc (.cells #[.int .i64 0,.slice none 0 0,.int .i64 0,.slice none 0 0,.int .i64 0,.int .i64 0,.bool false,.int .i64 0,.string ⟨#[]⟩] 25)) (((w.alloc (.cells #[.int .i64 k,.slice ra r.length rc,.int .i64 ast,.slice sa l.length sc,.int .i64 mn,.int .i64 mx,.bool z,.int .i64 ix,.string nm] 25)).alloc (.cells #[.int .i64 0,.slice none 0 0,.int .i64 0,.slice none 0 0,.int .i64 0,.int .i64 0,.bool false,.int .i64 0,.string ⟨#[]⟩] 25)).alloc (.cells #[.int .i64 5,.slice none 0 0,.int .i64 0,.slice none 0 0,.int .i64 0,.int .i64 0,.bool false,.int .i64 0,.string ⟨#[]⟩] 25)):=(zzb _ _).alloc (by rw [hs2];exact zzF _) _
 have HC3:=zzA (hcs.low hb3)
 have hcl3:=hcl.below hb3 (by omega) (by omega)
 have he:(((w.alloc (.cells #[.int .i64 k,.slice ra r.length rc,.int .i64 ast,.slice sa l.length sc,.int .i64 mn,.int .i64 mx,.bool z,.int .i64 ix,.string nm] 25)).alloc (.cells #[.int .i64 0,.slice none 0 0,.int .i64 0,.slice none 0 0,.int .i64 0,.int .i64 0,.bool false,.int .i64 0,.string ⟨#[]⟩] 25)).alloc (.cells #[.int .i64 5,.slice none 0 0,.int .i64 0,.slice none 0 0,.int .i64 0,.int .i64 0,.bool false,.int .i64 0,.string ⟨#[]⟩] 25)).cell? ⟨ec,0,none⟩=some (.func (Fn.func 70) #[] #[.pointer (some ⟨bc,0,none⟩)]):=hcl3.2
 have hs3:(((w.alloc (.cells #[.int .i64 k,.slice ra r.length rc,.int .i64 ast,.slice sa l.length sc,.int .i64 mn,.int .i64 mx,.bool z,.int .i64 ix,.string nm] 25)).alloc (.cells #[.int .i64 0,.slice none 0 0,.int .i64 0,.slice none 0 0,.int .i64 0,.int .i64 0,.bool false,.int .i64 0,.string ⟨#[]⟩] 25)).alloc (.cells #[.int .i64 5,.slice none 0 0,.int .i64 0,.slice none 0 0,.int .i64 0,.int .i64 0,.bool false,.int .i64 0,.string ⟨#[]⟩] 25)).heap.size=w.heap.size+1+1+1:=by simp
 have hrow:RowV w.heap.size (w.heap.size+1+1+1) [w.heap.size+1] (w.heap.size+1+1) 25 f2 (.slice none 0 0) [] (((w.alloc (.cells #[.int .i64 k,.slice ra r.length rc,.int .i64 ast,.slice sa l.length sc,.int .i64 mn,.int .i64 mx,.bool z,.int .i64 ix,.string nm] 25)).alloc (.cells #[.int .i64 0,.slice none 0 0,.int .i64 0,.slice none 0 0,.int .i64 0,.int .i64 0,.bool false,.int .i64 0,.string ⟨#[]⟩] 25)).alloc (.cells #[.int .i64 5,.slice none 0 0,.int .i64 0,.slice none 0 0,.int .i64 0,.int .i64 0,.bool false,.int .i64 0,.string ⟨#[]⟩] 25)):=by
  have:=zyI ((w.alloc (.cells #[.int .i64 k,.slice ra r.length rc,.int .i64 ast,.slice sa l.length sc,.int .i64 mn,.int .i64 mx,.bool z,.int .i64 ix,.string nm] 25)).alloc (.cells #[.int .i64 0,.slice none 0 0,.int .i64 0,.slice none 0 0,.int .i64 0,.int .i64 0,.bool false,.int .i64 0,.string ⟨#[]⟩] 25)) 25 [.int .i64 5,.slice none 0 0,.int .i64 0,.slice none 0 0,.int .i64 0,.int .i64 0,.bool false,.int .i64 0,.string ⟨#[]⟩]
  rw [hs2] at this
  exact ⟨this,World.ownsRow_nil _ _ _ _,by simp,by simp [Value.ownBlock]⟩
 have HROW:=zzA hrow
 have HCL3:=zzA hcl3
 have HN:=zzA ((hN.go fun b hb=>(HC3.out.below.block b (hS b hb)):RdA (((w.alloc (.cells #[.int .i64 k,.slice ra r.length rc,.int .i64 ast,.slice sa l.length sc,.int .i64 mn,.int .i64 mx,.bool z,.int .i64 ix,.string nm] 25)).alloc (.cells #[.int .i64 0,.slice none 0 0,.int .i64 0,.slice none 0 0,.int .i64 0,.int .i64 0,.bool false,.int .i64 0,.string ⟨#[]⟩] 25)).alloc (.cells #[.int .i64 5,.slice none 0 0,.int .i64 0,.slice none 0 0,.int .i64 0,.int .i64 0,.bool false,.int .i64 0,.string ⟨#[]⟩] 25)) S 9 sa l.length sc (rowT l)))
 have HL:=zzA (fun u hu=>(hL u hu).below hS HC3.out.below)
 have HSS:=zzA hS
 have HIH:=zzA ih
 have HAL:=zzA hal
 have HSZ:=zzA hsz
 have HP:=zzA hp
 clear h hR hN hL hS hcs hcl hcel hb3 hcl3 hrow ih hal hsz hp
 simp only [Ta.val,Ta.vals]
 go_enter Tryz.func71,Tryz.ntmps71
 go_wp2_with fail
 generalize (((w.alloc (.cells #[.int .i64 k,.slice ra r.length rc,.int .i64 ast,.slice sa l.length sc,.int .i64 mn,.int .i64 mx,.bool z,.int .i64 ix,.string nm] 25)).alloc (.cells #[.int .i64 0,.slice none 0 0,.int .i64 0,.slice none 0 0,.int .i64 0,.int .i64 0,.bool false,.int .i64 0,.string ⟨#[]⟩] 25)).alloc (.cells #[.int .i64 5,.slice none 0 0,.int .i64 0,.slice none 0 0,.int .i64 0,.int .i64 0,.bool false,.int .i64 0,.string ⟨#[]⟩] 25))=w3 at *
 refine (each_alt l HIH.out S w.heap.size (w.heap.size+1+1+1) [w.heap.size+1] (w.heap.size+1+1) (.slice none 0 0) sa sc w3 bc ec HN.out HL.out (fun b hb=>by have:=HSS.out b hb;omega) HROW.out (by omega) (by omega) (by omega) (by intro x hx;simp at hx;omega) HCL3.out (by omega) (by omega) hll HAL.out HSZ.out HP.out).mono ?_
 rintro e w5 ⟨rfl,v,us,hrow5,htu,hb5⟩
 have HC5:=zzA (HC3.out.low hb5)
 have HR5:=zzA hrow5
 have HTU:=zzA htu
 have hln:us.length≤1048576:=by rw [←trs_length,htu];exact zzU HP.out (by decide)
 obtain ⟨A,c,rfl⟩:=own_shape hrow5.own
 clear hrow5 htu hb5
 obtain ⟨q0,q1,q2,q3,q4,q5,q6,q7,q8⟩:=bc9 (HC5.out.res)
 have fz0:=HC5.out.res.frozen 0
 have fz1:=HC5.out.res.frozen 1
 have fz2:=HC5.out.res.frozen 2
 have fz3:=HC5.out.res.frozen 3
 have fz4:=HC5.out.res.frozen 4
 have fz5:=HC5.out.res.frozen 5
 have fz6:=HC5.out.res.frozen 6
 have fz7:=HC5.out.res.frozen 7
 have fz8:=HC5.out.res.frozen 8
 have fz9:=HC5.out.res.lt
 obtain ⟨o0,o1,o2,o3,o4,o5,o6,o7,o8⟩:=bc9 (HR5.out.blk)
 have hRT:RT w5 (Fr w.heap.size [w.heap.size+1] w5) (Ta.mk 5 [] none 0 0 us A c 0 0 false 0 ⟨#[]⟩):=by
  refine RT.of ⟨RdA.none_,by simp,hln,by decide⟩ ?_ fun u hu=>(HR5.out.els u hu).fr_less (by simp)
  obtain ⟨A',c',he',hra⟩:=RdA.of_own (L:=[w.heap.size+1]) (own_lower HR5.out.own (show w.heap.size≤w.heap.size+1+1+1 by omega)) (fun b hb hm=>by simp at hm;have:=(HR5.out.own.lt b hb).1;omega)
  cases he'
  exact hra
 have HRT:=zzA hRT
 clear hRT
 simp only []
 go_wp2_with fail
 refine zzm (node_ret rfl _ _ (w.heap.size+1) (Ta.mk 5 [] none 0 0 us A c 0 0 false 0 ⟨#[]⟩) rfl (show Blk (((((((((w5.setCell ⟨w.heap.size+1,0,none⟩ (.int .i64 5)).setCell ⟨w.heap.size+1,1,none⟩ (.slice none 0 0)).setCell ⟨w.heap.size+1,2,none⟩ (.int .i64 0)).setCell ⟨w.heap.size+1,3,none⟩ (.slice A us.length c)).setCell ⟨w.heap.size+1,4,none⟩ (.int .i64 0)).setCell ⟨w.heap.size+1,5,none⟩ (.int .i64 0)).setCell ⟨w.heap.size+1,6,none⟩ (.bool false)).setCell ⟨w.heap.size+1,7,none⟩ (.int .i64 0)).setCell ⟨w.heap.size+1,8,none⟩ (.string ⟨#[]⟩)) (w.heap.size+1) 25 (Ta.mk 5 [] none 0 0 us A c 0 0 false 0 ⟨#[]⟩).vals from (((((((((HC5.out.res.set_ 0 (.int .i64 5)).set_ 1 (.slice none 0 0)).set_ 2 (.int .i64 0)).set_ 3 (.slice A us.length c)).set_ 4 (.int .i64 0)).set_ 5 (.int .i64 0)).set_ 6 (.bool false)).set_ 7 (.int .i64 0)).set_ 8 (.string ⟨#[]⟩)))) rfl ?_
 refine ⟨Ta.mk 5 [] none 0 0 us A c 0 0 false 0 ⟨#[]⟩,rfl,(by rw [Ta.tr,HTU.out];rfl),(HRT.out).fr_kept (kept9 w5 (w.heap.size+1) 0 (.int .i64 5) (.slice none 0 0) (.int .i64 0) (.slice A us.length c) (.int .i64 0) (.int .i64 0) (.bool false) (.int .i64 0) (.string ⟨#[]⟩)) (by simp) (by simp),zyH HC5.out.below (kept9 w5 (w.heap.size+1) 0 (.int .i64 5) (.slice none 0 0) (.int .i64 0) (.slice A us.length c) (.int .i64 0) (.int .i64 0) (.bool false) (.int .i64 0) (.string ⟨#[]⟩)) (by intro b hb;simp at hb;omega) HC5.out.below.size⟩
end Go.Proofs.YtgkclnmmjedmkaaGreat
