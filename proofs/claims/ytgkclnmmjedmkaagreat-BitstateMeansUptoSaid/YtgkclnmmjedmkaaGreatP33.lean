/- simplify.simple's closures: words. -/
import Derived.Laws.EntriesVeiled
import Derived.Test.YtgkclnmmjedmkaaGreatP32
set_option maxRecDepth 100000
set_option maxHeartbeats 2000000
namespace Go.Proofs.YtgkclnmmjedmkaaGreat
open Go.RowKit Tr
def CEL (bc ec:Nat) (w:World):Prop:=w.cell? ⟨bc,0,none⟩=some (.func (Fn.func 71) #[] #[.pointer (some ⟨bc,0,none⟩),.pointer (some ⟨ec,0,none⟩)])∧w.cell? ⟨ec,0,none⟩=some (.func (Fn.func 70) #[] #[.pointer (some ⟨bc,0,none⟩)])
theorem CEL.lt {bc ec:Nat} {w:World} (h:CEL bc ec w):bc < w.heap.size∧ec < w.heap.size:=⟨zze w _ h.1,zze w _ h.2⟩
theorem CEL.below {bc ec B:Nat} {w w':World} (h:CEL bc ec w) (hb:Below B w w') (h1:bc < B) (h2:ec < B):CEL bc ec w' :=
 ⟨(hb.cell (p:=⟨bc,0,none⟩) h1).trans h.1,(hb.cell (p:=⟨ec,0,none⟩) h2).trans h.2⟩
def BD (t:Ta):Prop:=∀ (S:Nat→Prop) (w:World) (bc ec:Nat),RT w S t→(∀ b,S b→b < w.heap.size)→CEL bc ec w→allB t.tr=true→size (simpleS t.tr)≤200000 →
  Calls Tryz.prog 71 #[t.val,.pointer (some ⟨bc,0,none⟩),.pointer (some ⟨ec,0,none⟩)] w fun e w'=>∃ u:Ta,e=.returned u.val∧u.tr=simpleS t.tr∧RT w' (Fr w.heap.size [] w') u∧Below w.heap.size w w'
def putsT (l:List Tr.Tr):List Tr.Tr:=(l.map simpleS).flatMap putT
theorem putsT_append (a b:List Tr.Tr):putsT (a++b)=putsT a++putsT b:=by unfold putsT;rw [zzT,List.flatMap_append]
theorem putsT_one (t:Tr.Tr):putsT [t]=putT (simpleS t):=by simp [putsT]
theorem take_trs {l:List Ta} {i:Nat} {u:Ta} (hu:l[i]?=some u):trs (l.take (i+1))=trs (l.take i)++[u.tr]:=by
 rw [zyD,hu,trs_map,trs_map,zzT];rfl
theorem putsT_le (l:List Ta) (i:Nat):(putsT (trs (l.take i))).length≤(putsT (trs l)).length:=by
 have:trs l=trs (l.take i)++trs (l.drop i):=by rw [←trs_append,List.take_append_drop]
 rw [this,putsT_append,zzG];omega
def altsT (l:List Tr.Tr):List Tr.Tr:=(l.map simpleS).flatMap altPut
theorem altsT_append (a b:List Tr.Tr):altsT (a++b)=altsT a++altsT b:=by unfold altsT;rw [zzT,List.flatMap_append]
theorem altsT_one (t:Tr.Tr):altsT [t]=altPut (simpleS t):=by simp [altsT]
theorem altsT_le (l:List Ta) (i:Nat):(altsT (trs (l.take i))).length≤(altsT (trs l)).length:=by
 have:trs l=trs (l.take i)++trs (l.drop i):=by rw [←trs_append,List.take_append_drop]
 rw [this,altsT_append,zzG];omega
theorem subs_pos5 {t:Tr.Tr} (h:allB t=true) (hk:t.kind=5):2≤t.subs.length:=by
 cases kinds h with
 | cat l hc hs=>simp [catT,Tr.kind] at hk
 | empty=>simp [emptyT,Tr.kind] at hk
 | cls r hr=>simp [Tr.kind] at hk
 | ass a ha=>simp [Tr.kind] at hk
 | alt l hc hs=>exact hc
 | rep x n m z hx h0 hb hm=>simp [repT,Tr.kind] at hk
 | group x i s hx h0 hb hm=>simp [groupT,Tr.kind] at hk
theorem each_put (l:List Ta) (ih:∀ u∈l,BD u) (S:Nat→Prop) (B Bo:Nat) (X:List Nat) (rb:Nat) (v0:Value) (A:Option Addr) (c:Nat) (w:World) (bc ec:Nat)
  (hN:RdA w S 9 A l.length c (rowT l)) (hL:∀ u∈l,RT w S u) (hS:∀ b,S b→b < rb) (hrow:RowV B Bo X rb 139 f1 v0 [] w) (hB:B≤rb) (hBo:Bo≤w.heap.size) (hrB:rb≤Bo) (hX:∀ x∈X,x < w.heap.size) (hcel:CEL bc ec w) (hbc:bc < rb) (hec:ec < rb) (hll:l.length≤1048576)
  (hal:∀ u∈l,allB u.tr=true) (hsz:∀ u∈l,size (simpleS u.tr)≤200000) (hp:(putsT (trs l)).length≤200000) :
  Calls Tryz.prog 70 #[.slice A l.length c,(.func (Fn.func 72) #[.pointer (some ⟨rb,0,none⟩)] #[]),.pointer (some ⟨bc,0,none⟩)] w fun e w'=>e=.returned (.tuple #[])∧∃ (v:Value) (us:List Ta),RowV B Bo X rb 139 f1 v us w'∧trs us=putsT (trs l)∧Below rb w w':=by
 have hsc:=hN.1
 have hsc2:=hN.2.1
 have HIH:=zzA ih
 have HN:=zzA hN
 have HL:=zzA hL
 have HSS:=zzA hS
 have HROW:=zzA hrow
 have HX:=zzA hX
 have HCEL:=zzA hcel
 have HAL:=zzA hal
 have HSZ:=zzA hsz
 have HP:=zzA hp
 have hrw:=hrow.blk.lt
 clear ih hN hL hS hrow hX hcel hal hsz hp
 go_enter Tryz.func70,Tryz.ntmps70
 go_wp2_with fail
 go_loopw [9] (fun iv wr=>∃ (i:Nat) (v:Value) (us:List Ta),i≤l.length∧iv=.int .i64 (i:Int)∧trs us=putsT (trs (l.take i))∧RowV B Bo X rb 139 f1 v us wr∧Below rb w wr) (fun iv _=>l.length - (intOf iv).toNat)
 case atStart=>exact ⟨0,v0,[],zzZ _,rfl,rfl,HROW.out,zzb _ _⟩
 case round =>
  obtain ⟨i,v,us,hi,rfl,htu,hr,hb⟩:=hrel
  have HR:=zzA hr
  have HTU:=zzA htu
  have HB:=zzA hb
  have hLN:us.length≤200000:=by rw [←trs_length,htu];exact zzU (putsT_le l i) HP.out
  have hrwr:=hr.blk.lt
  have hwwr:=hb.size
  clear hr htu hb
  by_cases hlt:i < l.length
  ·have hlt2:(i:Int) < (l.length:Int):=by omega
   obtain ⟨b,off,rfl,hSb,_⟩:=HN.out.2.2.2.2 (by omega)
   obtain ⟨u,hu⟩:∃ u,l[i]?=some u:=⟨_,zzJ hlt⟩
   have hum:u∈l:=zzL hu
   have hcell:∀ j,j < 9→wr.cell? ⟨b,off+i*9+j,none⟩=u.vals[j]?:=fun j hj=>by
    rw [zzy]
    rw [←HN.out.node hu hj]
    exact (HB.out.cell (p:=⟨b,off+(i*9+j),none⟩) (HSS.out b hSb))
   have hba:Below wr.heap.size wr (wr.alloc (.cells u.vals.toArray 25)):=(zzb _ _).alloc (zzF _) _
   have hBA:Below rb w (wr.alloc (.cells u.vals.toArray 25)):=HB.out.trans (hba.mono (zzo hrwr))
   have hcela:=HCEL.out.below hBA hbc hec
   have hRK:=HIH.out u hum S (wr.alloc (.cells u.vals.toArray 25)) bc ec ((HL.out u hum).below HSS.out hBA) (fun b hb=>zzQ (HSS.out b hb) (zzU (zzo hrwr) hba.size)) hcela (HAL.out u hum) (HSZ.out u hum)
   have HGOOD:=zzA (simple_good _ (HAL.out u hum)).1
   have HTK:=zzA (take_trs hu)
   have HWA:=zzA hba
   have HBA:=zzA hBA
   have ecell:(wr.alloc (.cells u.vals.toArray 25)).cell? ⟨bc,0,none⟩=some (.func (Fn.func 71) #[] #[.pointer (some ⟨bc,0,none⟩),.pointer (some ⟨ec,0,none⟩)]):=hcela.1
   clear hba hBA hcela hu hum
   obtain ⟨st,hst⟩:∃ q,q=simpleS u.tr:=⟨_,rfl⟩
   obtain ⟨ut,hut⟩:∃ q,q=u.tr:=⟨_,rfl⟩
   rw [←hst] at hRK HGOOD
   rw [←hut] at HTK hst
   have HST:=zzA hst
   clear hst hut
   cases u with
   | mk k' r' ra' rc' a' l' sa' sc' n' m' z' i' s' =>
   simp only [Ta.vals] at hcell HWA HBA ecell
   simp only [Ta.val,Ta.vals] at hRK
   have c0:=hcell 0 (by omega)
   have c1:=hcell 1 (by omega)
   have c2:=hcell 2 (by omega)
   have c3:=hcell 3 (by omega)
   have c4:=hcell 4 (by omega)
   have c5:=hcell 5 (by omega)
   have c6:=hcell 6 (by omega)
   have c7:=hcell 7 (by omega)
   have c8:=hcell 8 (by omega)
   simp only [zzR,zzX,Nat.add_zero] at c0 c1 c2 c3 c4 c5 c6 c7 c8
   have HIN:=zzA hRK
   clear hcell hRK
   go_wp2_with fail
   refine HIN.out.mono ?_
   rintro e w5 ⟨u5,rfl,htr5,hrt5,hb5⟩
   have hbr5:=HWA.out.trans (hb5.mono HWA.out.size)
   have hs5:=hbr5.size
   have HR5:=zzA (show RowV B Bo X rb 139 f1 v us w5 from ⟨HR.out.blk.below hbr5 HR.out.blk.lt,own_below HR.out.own hbr5,fun q hq=>(HR.out.els q hq).fr_below hbr5,HR.out.sep⟩)
   have HRT5:=zzA (hrt5.fr_in (B:=B) (L:=X++rb :: v.ownBlock.toList) (by have:=HWA.out.size;omega) (by
    have:=HWA.out.size
    intro x hx
    rcases zzM.1 hx with hx | hx
    ·have:=HX.out x hx;omega
    ·rcases zzN.1 hx with rfl | hx
     ·omega
     ·have:=(HR.out.own.lt x (by simpa using hx)).2;omega))
   have HB5:=zzA (HB.out.trans (hbr5.mono (zzo hrwr)))
   have HTR5:=zzA htr5
   clear hbr5 hb5 htr5 hrt5 c0 c1 c2 c3 c4 c5 c6 c7 c8 ecell HIN
   obtain ⟨k2,r2,ra2,rc2,a2,l2,sa2,sc2,n2,m2,z2,i2,s2⟩:=u5
   simp only []
   go_wp2_with fail
   refine (put_any B Bo X rb v us (Ta.mk k2 r2 ra2 rc2 a2 l2 sa2 sc2 n2 m2 z2 i2 s2) w5 HR5.out HRT5.out (by omega) (by omega) (fun hk=>by rw [Ta.subs_len,HTR5.out];rw [HTR5.out] at hk;have:=subs_pos HGOOD.out hk;omega)).mono ?_
   rintro e w6 ⟨rfl,v6,hrow6,hk6,hv6⟩
   have HR6:=zzA hrow6
   have HB6:=zzA (zyH HB5.out hk6 (by
    intro x hx
    rcases zzN.1 hx with rfl | hx
    ·exact zzF _
    ·have:=(HR.out.own.lt x (by simpa using hx)).1;omega) (by omega))
   clear hrow6 hk6 hv6
   simp only []
   go_wp2_with fail
   go_roundw
   case rel=>exact ⟨i+1,v6,_,by omega,by go_num,by rw [trs_append,putA_tr,HTU.out,HTR5.out,HTK.out,putsT_append,putsT_one,HST.out],HR6.out,HB6.out⟩
   case measure=>simp [intOf];omega
  ·obtain rfl:i=l.length:=by omega
   have hlt2:¬((l.length:Int) < (l.length:Int)):=by omega
   go_wp2_with fail
   go_end0
   exact ⟨rfl,v,us,HR.out,by rw [HTU.out,List.take_length],HB.out⟩
end Go.Proofs.YtgkclnmmjedmkaaGreat
namespace Go.Proofs.YtgkclnmmjedmkaaGreat
open Go.RowKit Mach
variable {X:List Nat}
structure RowI (X:List Nat) (rb:Nat) (ty:TypeId) (v:Value) (L:List InV) (w:World):Prop where
 blk:Blk w rb ty [v]
 own:w.ownsRow rb 62 5 v L.length (insRow L)
 els:∀ u∈L,RdA w (Fr rb ((rb :: v.ownBlock.toList)++X) w) 2 u.A u.n u.c (flat u.I.rng)
 sep:v.ownBlock≠some rb
 xs:∀ x∈X,x < w.heap.size
structure RKI (rb:Nat) (v:Value) (w:World) (v':Value) (w':World):Prop where
 kept:Kept w w' (rb :: v.ownBlock.toList)
 ow:v'.ownBlock=v.ownBlock∨∃ g,v'.ownBlock=some g∧w.heap.size≤g
structure NB (rb g:Nat) (ty:TypeId) (cs:List Value) (v:Value) (w:World):Prop where
 blk:Blk w g ty cs
 ne:g≠rb
 sep:v.ownBlock≠some g
theorem RKI.of_below {rb:Nat} {v:Value} {w w':World} (h:Below w.heap.size w w'):RKI rb v w v w':=⟨Kept.of_below h,.inl rfl⟩
theorem RKI.trans {rb:Nat} {v v1 v2:Value} {w w1 w2:World} (h:RKI rb v w v1 w1) (g:RKI rb v1 w1 v2 w2):RKI rb v w v2 w2:=by
 refine ⟨(h.kept.trans g.kept).more ?_,?_⟩
 ·intro x hx
  rcases zzM.1 hx with hx | hx
  ·exact .inl hx
  ·rcases zzN.1 hx with rfl | hx
   ·exact .inl (by simp)
   ·rcases h.ow with e | ⟨y,e,hy⟩
    ·rw [e] at hx;exact .inl (zzI _ hx)
    ·rw [e] at hx;simp at hx;subst hx;exact .inr hy
 ·rcases g.ow with e | ⟨y,e,hy⟩
  ·rcases h.ow with f | ⟨z,f,hz⟩
   ·exact .inl (e.trans f)
   ·exact .inr ⟨z,e.trans f,hz⟩
  ·exact .inr ⟨y,e,zzU h.kept.size hy⟩
theorem RKI.nb {rb g:Nat} {ty:TypeId} {cs:List Value} {v v1:Value} {w w1:World} (h:RKI rb v w v1 w1) (n:NB rb g ty cs v w):NB rb g ty cs v1 w1:=by
 refine ⟨n.blk.kept h.kept fun hm=>?_,n.ne,fun e=>?_⟩
 ·rcases zzN.1 hm with hm | hm
  ·exact n.ne hm
  ·exact n.sep (by simpa using hm)
 ·rcases h.ow with f | ⟨y,f,hy⟩
  ·exact n.sep (f.symm.trans e)
  ·rw [f] at e
   have:=n.blk.lt
   simp at e
   omega
theorem RowI.new {rb:Nat} {ty ty2:TypeId} {v:Value} {L:List InV} {w:World} (h:RowI X rb ty v L w) (cs:List Value):NB rb w.heap.size ty2 cs v (w.alloc (.cells cs.toArray ty2)):=by
 have:=h.blk.lt
 refine ⟨zyI w ty2 cs,by omega,fun e=>?_⟩
 have:=h.own.lt _ e
 omega
theorem RowI.low {rb:Nat} {ty:TypeId} {v v':Value} {L:List InV} {w w':World} (h:RowI X rb ty v L w) (k:RKI rb v w v' w'):Below rb w w' :=
 k.kept.below (fun x hx=>by
  rcases zzN.1 hx with rfl | hx
  ·exact zzF _
  ·have:=h.own.lt x (by simpa using hx);omega) (zzo h.blk.lt)
theorem insV_one (I:Ins) (A:Option Addr) (n c:Nat):∀ u∈insVals I A n c,u.oneCell'=true:=by
 intro u hu
 simp only [insVals,zzN,zyA,or_false] at hu
 rcases hu with rfl | rfl | rfl | rfl | rfl <;> rfl
theorem insRow_app (a b:List InV):insRow (a++b)=insRow a++insRow b:=by unfold insRow;rw [List.flatMap_append]
theorem insRow_one (v:InV):insRow [v]=insVals v.I v.A v.n v.c:=by unfold insRow;simp
theorem insRow_at (L:List InV) (v:InV) (q:Nat) (hq:q < 5):(insRow (L++[v]))[L.length*5+q]?=(insVals v.I v.A v.n v.c)[q]?:=insRow_get _ _ _ _ (by rw [zzz (zzF _),Nat.sub_self];rfl) hq
theorem insRow_set {L:List InV} {i q:Nat} {v u:InV} {x:Value} (hv:L[i]?=some v) (hq:q < 5) (hx:(insVals v.I v.A v.n v.c).set q x=insVals u.I u.A u.n u.c):(insRow L).set (i*5+q) x=insRow (L.set i u):=by
 induction L generalizing i with
 | nil=>simp at hv
 | cons a L ih =>
  cases i with
  | zero =>
   simp only [zzR,zzd] at hv
   subst hv
   rw [zzD,Nat.zero_mul,zzw]
   show (insVals a.I a.A a.n a.c++insRow L).set q x=insVals u.I u.A u.n u.c++insRow L
   rw [List.set_append_left _ _ (by simpa [insVals] using hq),hx]
  | succ i =>
   rw [zzC]
   show (insVals a.I a.A a.n a.c++insRow L).set ((i+1)*5+q) x=insVals a.I a.A a.n a.c++insRow (L.set i u)
   rw [List.set_append_right _ _ (by simp [insVals];omega),show (i+1)*5+q - (insVals a.I a.A a.n a.c).length=i*5+q from by simp [insVals];omega,ih (by simpa using hv)]
section
variable {w w':World} {rb:Nat} {ty:TypeId} {v:Value} {L:List InV}
theorem RowI.below (h:RowI X rb ty v L w) (hb:Below w.heap.size w w'):RowI X rb ty v L w' :=
 ⟨h.blk.below hb h.blk.lt,own_below h.own hb,fun u hu=>(h.els u hu).fr_below hb,h.sep,fun x hx=>zzQ (h.xs x hx) hb.size⟩
theorem own_set1 {base g c n i:Nat} {e:TypeId} {size:Nat} {xs:List Value} {x:Value} (h:w.ownsRow base e size (.slice (some ⟨g,0,none⟩) n c) n xs) (hi:i < xs.length):(w.setCell ⟨g,i,none⟩ x).ownsRow base e size (.slice (some ⟨g,0,none⟩) n c) n (xs.set i x):=by
 rcases h.2 with ⟨h0,_⟩ | ⟨g',cap,cur,hv,hb,hh,hnc,hcm,hcs,ht⟩
 ·cases h0
 ·simp only [Value.slice.injEq,zzd,Addr.mk.injEq,and_true] at hv
  obtain ⟨rfl,_,rfl⟩:=hv
  have hl:=h.1
  have hb0:Blk w g e (xs++cur.toList.drop (n*size)):=by
   unfold Blk
   rw [←ht,List.take_append_drop,Array.toArray_toList]
   exact hh
  have hb1:=hb0.set_ i x
  have hcl:cur.toList.length=c*size:=(Array.length_toList (xs:=cur)).trans hcs
  have hmul:n*size≤c*size:=Nat.mul_le_mul_right _ hnc
  rw [List.set_append_left _ _ hi] at hb1
  have hlen:(xs.set i x++cur.toList.drop (n*size)).length=c*size:=by
   rw [zzG,zzu,List.length_drop,hcl,hl];omega
  have:=hb1.own (base:=base) (size:=size) hb hnc (by unfold maxLen at hcm;omega) hlen
  rwa [List.take_append_of_le_length (by rw [zzu,hl];omega),List.take_of_length_le (by rw [zzu,hl];omega)] at this
theorem RowI.set_ {g c i q:Nat} {x:Value} {a u:InV} (h:RowI X rb ty (.slice (some ⟨g,0,none⟩) L.length c) L w) (ha:L[i]?=some a) (hq:q < 5) (hx:(insVals a.I a.A a.n a.c).set q x=insVals u.I u.A u.n u.c)
  (hu:RdA w (Fr rb ([rb,g]++X) w) 2 u.A u.n u.c (flat u.I.rng)) :
  RowI X rb ty (.slice (some ⟨g,0,none⟩) (L.set i u).length c) (L.set i u) (w.setCell ⟨g,i*5+q,none⟩ x):=by
 have hil:i < L.length:=(zzK.1 ha).1
 have hgr:g≠rb:=fun e=>h.sep (by rw [e];rfl)
 have hk:=zyG (w:=w) ⟨g,i*5+q,none⟩ x
 have hM:∀ b∈[g],b∈[rb,g]++X∨w.heap.size≤b∨b < rb:=fun b hb=>by simp at hb;subst hb;exact .inl (by simp)
 have hlt:i*5+q < (insRow L).length:=by rw [insRow_length];omega
 refine ⟨?_,?_,?_,h.sep,fun x hx=>zzQ (h.xs x hx) hk.size⟩
 ·rw [zzu];exact h.blk.kept hk (by simpa using hgr.symm)
 ·rw [zzu,←insRow_set ha hq hx]
  exact own_set1 h.own hlt
 ·intro z hz
  have hz2:z∈L∨z=u:=List.mem_or_eq_of_mem_set hz
  rcases hz2 with hz2 | rfl
  ·exact (h.els z hz2).fr_kept hk hM (fun b hb=>.inl (by simpa [Value.ownBlock] using hb))
  ·exact hu.fr_kept hk hM (fun b hb=>.inl (by simpa [Value.ownBlock] using hb))
theorem RowI.set_k {g c i:Nat} {x:Value} {n:Nat}:RKI rb (.slice (some ⟨g,0,none⟩) n c) w (.slice (some ⟨g,0,none⟩) n c) (w.setCell ⟨g,i,none⟩ x) :=
 ⟨(zyG ⟨g,i,none⟩ x).more (by intro k hk;simp at hk;subst hk;exact .inl (by simp [Value.ownBlock])),.inl rfl⟩
theorem RowI.fin {g cap c:Nat} {A:Option Addr} {u:InV} {w2 wf:World} (h:RowI X rb ty (.slice A L.length c) L w) (hu:RdA w (Fr rb ((rb :: (Value.slice A L.length c).ownBlock.toList)++X) w) 2 u.A u.n u.c (flat u.I.rng))
  (hk0:Kept w w2 (Value.slice A L.length c).ownBlock.toList) (hk1:Kept w2 wf [rb,g]) (hgo:(Value.slice A L.length c).ownBlock=some g∨w.heap.size≤g) (hgr:g≠rb)
  (hb:Blk wf rb ty [.slice (some ⟨g,0,none⟩) (L.length+1) cap]) (ho:wf.ownsRow rb 62 5 (.slice (some ⟨g,0,none⟩) (L.length+1) cap) (L.length+1) (insRow (L++[u]))) :
  ∃ v',RowI X rb ty v' (L++[u]) wf∧RKI rb (.slice A L.length c) w v' wf:=by
 have hk:Kept w wf (rb :: (Value.slice A L.length c).ownBlock.toList):=(hk0.trans hk1).more (by
  intro x hx
  rcases zzM.1 hx with h | h
  ·exact .inl (zzI _ h)
  ·simp only [zzN,zyA,or_false] at h
   rcases h with rfl | rfl
   ·exact .inl (by simp)
   ·rcases hgo with h | h
    ·exact .inl (by rw [h];simp)
    ·exact .inr h)
 have hL':∀ x∈(rb :: ((Value.slice (some ⟨g,0,none⟩) (L.length+1) cap).ownBlock).toList)++X,x∈(rb :: (Value.slice A L.length c).ownBlock.toList)++X∨w.heap.size≤x∨x < rb:=fun x hx=>by
  rcases zzM.1 hx with hx | hx
  ·simp only [Value.ownBlock,Option.toList_some,zzN,zyA,or_false] at hx
   rcases hx with rfl | rfl
   ·exact .inl (by simp)
   ·rcases hgo with h | h
    ·exact .inl (by rw [h];simp)
    ·exact .inr (.inl h)
  ·exact .inl (zzV _ hx)
 refine ⟨_,⟨hb,by rw [zzG];exact ho,fun z hz=>?_,fun h=>hgr (by simpa [Value.ownBlock] using h),fun x hx=>zzQ (h.xs x hx) hk.size⟩,⟨hk,?_⟩⟩
 ·rcases zzM.1 hz with hz | hz
  ·exact (h.els z hz).fr_kept hk (fun x hx=>.inl (zzW _ hx)) hL'
  ·simp only [zzE] at hz
   subst hz
   exact hu.fr_kept hk (fun x hx=>.inl (zzW _ hx)) hL'
 ·rcases hgo with e | e
  ·exact .inl e.symm
  ·exact .inr ⟨g,rfl,e⟩
theorem RowI.more {X':List Nat} (h:RowI X rb ty v L w) (hX:∀ x∈X',x∈X):RowI X' rb ty v L w :=
 ⟨h.blk,h.own,fun u hu=>(h.els u hu).mono fun b hb=>⟨hb.1,hb.2.1,fun hm=>hb.2.2 (by
  rcases zzM.1 hm with hm | hm
  ·exact zzW _ hm
  ·exact zzV _ (hX b hm))⟩,h.sep,fun x hx=>h.xs x (hX x hx)⟩
end
end Go.Proofs.YtgkclnmmjedmkaaGreat
