/- prog's maker: alternatives. -/
import Derived.Deep.RegionHeld3
import Derived.Deep.AppendLies
import Derived.Test.YtgkclnmmjedmkaaGreatP42
set_option maxRecDepth 100000
set_option maxHeartbeats 2000000
namespace Go.Proofs.YtgkclnmmjedmkaaGreat
open Go.RowKit Mach Tr
variable {X:List Nat}
theorem layAlt_any (k:Int) (r:List (Int × Int)) (ra:Option Addr) (rc:Nat) (ast:Int) (l:List Ta) (sa:Option Addr) (sc:Nat) (mn mx:Int) (z:Bool) (ix:Int) (nm:ByteArray) (ih:∀ u∈l,LY u) (S:Nat→Prop) (w:World) (rb:Nat) (v:Value) (L:List InV) (h:RT w S (.mk k r ra rc ast l sa sc mn mx z ix nm)) (hS:∀ b,S b→b < rb) (hr:RowI X rb 57 v L w) (m:Nat) (hm:l.length=m+1) (hl:L.length+(lensS (trs l)+2*m)≤1000000000) :
  Calls Tryz.prog 80 #[(.pointer (some ⟨rb,0,none⟩)),(Ta.mk k r ra rc ast l sa sc mn mx z ix nm).val] w fun e w'=>e=.returned (.tuple #[])∧∃ v' L',LP X rb v w L (lensS (trs l)+2*m) (altS (trs l) L.length (L.length+(lensS (trs l)+2*m))) v' L' w':=by
 have hb0:Below w.heap.size w (w.alloc (.cells #[.int .i64 k,.slice ra r.length rc,.int .i64 ast,.slice sa l.length sc,.int .i64 mn,.int .i64 mx,.bool z,.int .i64 ix,.string nm] 25)):=(zzb _ _).alloc (zzF _) _
 have HL:=zzA (LP.refl hr hb0)
 have HX:=zzA (hr.new (ty2:=25) [.int .i64 k,.slice ra r.length rc,.int .i64 ast,.slice sa l.length sc,.int .i64 mn,.int .i64 mx,.bool z,.int .i64 ix,.string nm])
 have HR:=zzA hr
 obtain ⟨⟨-,-,hll,-⟩,hN,hLs⟩:=h.parts
 have hlc:=hN.1
 have hlc2:=hN.2.1
 obtain ⟨b,off,rfl,hSb,_⟩:=hN.2.2.2.2 (by omega)
 have HNN:=zzA hN
 have HLS:=zzA hLs
 have HS:=zzA hS
 have HIH:=zzA ih
 have HM:=zzA hm
 have hm0:(0:Int)≤(m:Int):=by omega
 have hm1:(m:Int)≤(sc:Int):=by omega
 have hm2:(m:Int) < (l.length:Int):=by omega
 have hmw:IntKind.i64.wrap ((l.length:Int) - 1)=(m:Int):=by rw [wrI (by omega)];omega
 obtain ⟨i1,hi1,hz10,hz11,hz12⟩:=info_parts info_int0
 have hln:=hl
 have HB0:=zzA hb0
 clear h hS hr hb0 hN hLs ih hm
 have kA:(w.alloc (.cells #[.int .i64 k,.slice ra r.length rc,.int .i64 ast,.slice (some ⟨b,off,none⟩) l.length sc,.int .i64 mn,.int .i64 mx,.bool z,.int .i64 ix,.string nm] 25)).cell? ⟨w.heap.size,3,none⟩=some (.slice (some ⟨b,off,none⟩) l.length sc):=HX.out.blk.cell 3
 simp only [Ta.val,Ta.vals]
 go_enter Tryz.func80,Tryz.ntmps80
 go_wp2_with fail
 generalize (w.alloc (.cells #[.int .i64 k,.slice ra r.length rc,.int .i64 ast,.slice (some ⟨b,off,none⟩) l.length sc,.int .i64 mn,.int .i64 mx,.bool z,.int .i64 ix,.string nm] 25))=w1 at *
 go_loopw [20,5] (fun iv ov wr=>∃ (i:Nat) (v':Value) (L':List InV) (os:List Nat),i≤m∧iv=.int .i64 (i:Int)∧os.length=i∧OR rb (w.heap.size+1) v' ov os wr∧LP (ov.ownBlock.toList++X) rb v w L (lensS (trs (l.take i))+2*i) (altP (trs (l.take i)) L.length) v' L' wr∧(∀ p∈os,L.length≤p∧p < L'.length)∧(L'.length≤20000→os=nopsS (trs (l.take i)) L.length)∧NB rb w.heap.size 25 [.int .i64 k,.slice ra r.length rc,.int .i64 ast,.slice (some ⟨b,off,none⟩) l.length sc,.int .i64 mn,.int .i64 mx,.bool z,.int .i64 ix,.string nm] v' wr) (fun iv _ _=>m - (intOf iv).toNat)
 case atStart=>exact ⟨0,v,L,[],zzZ _,rfl,rfl,OR.nil,by rw [List.take_zero,trs,lensS,altP];exact HL.out,by simp,fun _=>by rw [List.take_zero,trs,nopsS],HX.out⟩
 case round =>
  obtain ⟨i,v',L',os,hi,rfl,hos,hor,hq,hop,hok,hxr⟩:=hrel
  by_cases hlt:i < m
  ·have hlt2:(i:Int) < (m:Int):=by omega
   have hil:i < l.length:=by have:=HM.out;omega
   obtain ⟨u,hu⟩:∃ u,l[i]?=some u:=⟨_,zzJ hil⟩
   have hum:u∈l:=zzL hu
   have hB:Below rb w wr:=HR.out.low hq.rk
   have hrs:=hq.row.blk.lt
   have hcell:∀ j,j < 9→wr.cell? ⟨b,off+i*9+j,none⟩=u.vals[j]?:=fun j hj=>by
    rw [zzy,←HNN.out.node hu hj]
    exact (hB.cell (p:=⟨b,off+(i*9+j),none⟩) (HS.out b hSb))
   have hba:Below wr.heap.size wr (wr.alloc (.cells u.vals.toArray 25)):=(zzb _ _).alloc (zzF _) _
   have HTK:=zzA (show trs (l.take (i+1))=trs (l.take i)++[u.tr] from by rw [zyD,hu,trs_map,trs_map,zzT];rfl)
   have HTL:=zzA (show (trs (l.take i)).length=i from by rw [trs_length,List.length_take];omega)
   have hle:=lens_take (trs l) (i+1)
   have htt:(trs l).take (i+1)=trs (l.take (i+1)):=by rw [trs_map,trs_map,List.map_take]
   rw [htt,HTK.out,lensS_app,lensS,lensS] at hle
   have hqle:=hq.le
   have hqge:=hq.ge
   have HRK:=zzA (fun (W:World) (V:Value) (XX:List Nat) (LL:List InV) (hW:Below rb w W) (hr2:RowI XX rb 57 V LL W) (hl2:LL.length+lenS u.tr≤1000000000)=>HIH.out u hum XX S W rb V LL ((HLS.out u hum).below HS.out hW) HS.out hr2 hl2)
   have HXS:=zzA (hq.row.new (ty2:=25) u.vals)
   have HA:=zzA (hq.below hba)
   have HOR:=zzA (hor.below hba)
   have HXR:=zzA (hxr.below hba)
   have HOP:=zzA hop
   have HOK:=zzA hok
   have HOS:=zzA hos
   clear hba hu hum htt hq hor hxr hop hok hB hos
   obtain ⟨ut,hut⟩:∃ q,q=u.tr:=⟨_,rfl⟩
   rw [←hut] at HRK HTK hle
   clear hut
   cases u with
   | mk k' r' ra' rc' a' l' sa' sc' n' m' z' i' s' =>
   simp only [Ta.vals] at hcell HXS HA HOR HXR
   simp only [Ta.val,Ta.vals] at HRK
   have c0:=hcell 0 (by omega)
   have c1':=hcell 1 (by omega)
   have c2':=hcell 2 (by omega)
   have c3:=hcell 3 (by omega)
   have c4:=hcell 4 (by omega)
   have c5:=hcell 5 (by omega)
   have c6:=hcell 6 (by omega)
   have c7:=hcell 7 (by omega)
   have c8:=hcell 8 (by omega)
   simp only [zzR,zzX,Nat.add_zero] at c0 c1' c2' c3 c4 c5 c6 c7 c8
   clear hcell
   have HP:=zzA (put_walk rb 2 0 v' L' (wr.alloc (.cells #[.int .i64 k',.slice ra' r'.length rc',.int .i64 a',.slice sa' l'.length sc',.int .i64 n',.int .i64 m',.bool z',.int .i64 i',.string s'] 25)) HA.out.row (by omega))
   go_wp2_with fail
   generalize (wr.alloc (.cells #[.int .i64 k',.slice ra' r'.length rc',.int .i64 a',.slice sa' l'.length sc',.int .i64 n',.int .i64 m',.bool z',.int .i64 i',.string s'] 25))=wa at *
   refine HP.out.mono ?_
   rintro e w2 ⟨rfl,v2,hr2,hk2⟩
   have HL2:=zzA (HA.out.seq (by simp [altP_length,HTL.out]) (fun b=>[⟨2,(b:Int)+1,0,0,[]⟩]) (LP.put hr2 hk2))
   obtain ⟨L2,hL2⟩:∃ q,q=L'++[⟨⟨2,(L'.length:Int)+1,0,0,[]⟩,none,0,0⟩]:=⟨_,rfl⟩
   rw [←hL2] at HL2
   have hn2:L2.length=L'.length+1:=by rw [hL2];simp
   have HXS2:=zzA (hk2.nb HXS.out)
   have HOR2:=zzA (hk2.or HOR.out)
   have HXR2:=zzA (hk2.nb HXR.out)
   have hlow:Below rb w w2:=HR.out.low HL2.out.rk
   have HI:=zzA (HRK.out w2 v2 _ L2 hlow HL2.out.row (by omega))
   obtain ⟨d0,d1,d2,d3,d4,d5,d6,d7,d8⟩:=bc9 (HXS2.out.blk)
   have HN2:=zzA hn2
   clear hr2 hk2 HP hlow hL2 hn2 c0 c1' c2' c3 c4 c5 c6 c7 c8
   simp only []
   go_wp2_with fail
   refine HI.out.mono ?_
   rintro e w3 ⟨rfl,v3,L3,hL3⟩
   have hle3:=hL3.le
   have hge3:=hL3.ge
   have HL3:=zzA (HL2.out.seq (by simp [altP_length,HTL.out]) (codeS ut) hL3)
   have HOR3:=zzA (hL3.rk.or HOR2.out)
   have HXR3:=zzA (hL3.rk.nb HXR2.out)
   have hl3:L3.length≤999999999:=by have:=HN2.out;omega
   have HP3:=zzA (put_walk rb 7 0 v3 L3 w3 hL3.row (by omega))
   clear hL3 d0 d1 d2 d3 d4 d5 d6 d7 d8 HI
   simp only []
   go_wp2_with fail
   refine HP3.out.mono ?_
   rintro e w4 ⟨rfl,v4,hr4,hk4⟩
   have HL4:=zzA (HL3.out.seq (by simp [altP_length,code_length,HTL.out];omega) (fun b=>[⟨7,(b:Int)+1,0,0,[]⟩]) (LP.put hr4 hk4))
   obtain ⟨L4,hL4⟩:∃ q,q=L3++[⟨⟨7,(L3.length:Int)+1,0,0,[]⟩,none,0,0⟩]:=⟨_,rfl⟩
   rw [←hL4] at HL4
   have HN4:=zzA (show L4.length=L3.length+1 by rw [hL4];simp)
   have HOR4:=zzA (hk4.or HOR3.out)
   have HXR4:=zzA (hk4.nb HXR3.out)
   clear hr4 hk4 HP3 hL4
   simp only []
   have hba5:Below w4.heap.size w4 (w4.alloc (.cells #[.int .i64 (L3.length:Int)] 3)):=(zzb _ _).alloc (zzF _) _
   obtain ⟨oa,oc,hoe⟩:=own_shape HOR4.out.own
   have HOR5:=zzA (HOR4.out.below hba5)
   have HXR5:=zzA (HXR4.out.below hba5)
   have HL5:=zzA (HL4.out.below hba5)
   have hwl:=HXR5.out.blk.lt
   have hol:os.length≤1000000000:=by have:=HOS.out;omega
   subst hoe
   clear hba5
   go_wp2_with (at_builtin;refine wpList_append_lies _ rfl (.tmp 31) (.tmp 36) 26 rfl (w.heap.size+1) 3 i1 (.int .i64 0) 1 8 Tryz.underlying26 hi1 hz10 hz11 hz12 rfl (by decide) (.slice oa os.length oc) os.length (os.map fun n:Nat=>Value.int .i64 (n:Int)) rfl HOR5.out.own ⟨w4.heap.size,0,none⟩ 1 1 [.int .i64 (L3.length:Int)] rfl rfl (new_atT w4 _ [.int .i64 (L3.length:Int)]) (by intro u hu;simp at hu;subst hu;rfl) (by decide) (by unfold maxLen;omega) (by omega) (by omega) _ rfl ?_;intro g cap2 w6 hou6 hg6 hat6 hlt6;have HOU:=zzA hou6;have HG6:=zzA hg6;have HAT:=zzA hat6;have HLT:=zzA hlt6;clear hou6 hg6 hat6 hlt6)
   have ho5:∀ x,(Value.slice oa os.length oc).ownBlock=some x→w.heap.size≤x∧x≠rb∧v4.ownBlock≠some x:=fun x hx=>⟨by have:=(HOR5.out.own.lt x hx).1;omega,HOR5.out.ne x hx⟩
   have HL6:=zzA (LP.grow HL5.out (Kept.of_grown' HG6.out) ho5 (HAT.out.imp id fun e=>by omega) HLT.out)
   have HXR6:=zzA (HXR5.out.kept (Kept.of_grown' HG6.out) (fun hm=>by have:=(HOR5.out.own.lt _ (by simpa using hm)).1;omega))
   have HOR6:Hid (OR rb (w.heap.size+1) v4 (.slice (some ⟨g,0,none⟩) (os.length+1) cap2) (os++[L3.length]) w6):=zzA (by
    refine ⟨by rw [zzG,zzT];exact HOU.out,fun x hx=>?_⟩
    simp only [Value.ownBlock,zzd] at hx
    subst hx
    rcases HAT.out with e | e
    ·exact (ho5 _ e).2
    ·have h1:=HL5.out.row.blk.lt
     exact ⟨by omega,fun e2=>by have:=(HL5.out.row.own.lt _ e2).2;omega⟩)
   obtain ⟨A4,c4,rfl⟩:=own_shape HL6.out.row.own
   obtain ⟨gi,rfl,-,-⟩:=HL6.out.slice (by have:=HN4.out;omega)
   have hlt4:L'.length < L4.length:=by have:=HN4.out;have:=HN2.out;omega
   obtain ⟨a4,ha4⟩:∃ a,L4[L'.length]?=some a:=⟨_,zzJ hlt4⟩
   have hgr:gi≠rb:=fun e=>HL6.out.row.sep (by rw [e];rfl)
   have hb0:(0:Int)≤(L'.length:Int):=by omega
   have hb1:(L'.length:Int) < (L4.length:Int):=by omega
   have e0:w6.drew.cell? ⟨rb,0,none⟩=some (.slice (some ⟨gi,0,none⟩) L4.length c4):=HL6.out.row.blk.cell 0
   have hy0:w6.cell? ⟨gi,L'.length*5+2,none⟩=some _:=HL6.out.cellY rfl ha4
   have fy0:=HL6.out.frozen rfl (L'.length*5+2)
   have hN:=zzA (next_cell rb (some ⟨gi,0,none⟩) L4.length c4 w6.drew e0)
   have HA4:=zzA ha4
   clear ha4 ho5 HOU HG6 HAT HLT
   go_region_held3 (fun w'=>w'.cell? ⟨rb,0,none⟩=some (.slice (some ⟨gi,0,none⟩) L4.length c4)) (first | with_reducible exact e0 | exact (World.cell?_setCell_far _ _ _ _ hgr).trans e0 | go_keep) (first | (go_at_call 44;refine hN.out.mono ?_;rintro e wn ⟨rfl,hwn⟩;subst wn;simp only []))
   have HL7:=zzA ((HL6.out.setY rfl HA4.out hqge (L4.length:Int)).drew)
   have hk7:RKI rb (.slice (some ⟨gi,0,none⟩) L4.length c4) w6 (.slice (some ⟨gi,0,none⟩) L4.length c4) (w6.setCell ⟨gi,L'.length*5+2,none⟩ (.int .i64 (L4.length:Int))).drew:=RowI.set_k.trans (RKI.of_below (bdrewN (zzb _ _) 1))
   have HOR7:=zzA (hk7.or HOR6.out)
   have HXR7:=zzA (hk7.nb HXR6.out)
   clear hk7 e0 hy0 fy0
   go_wp2_with fail
   go_roundw
   case rel =>
    have hn2:=HN2.out
    have hn4:=HN4.out
    have hls:(L4.set L'.length (atI a4 (fY (L4.length:Int) a4.I))).length=L4.length:=zzu
    refine ⟨i+1,_,_,os++[L3.length],by omega,by go_num,by rw [zzG,HOS.out];rfl,HOR7.out,LP.finish HL7.out (by rw [HTK.out,lensS_app,lensS,lensS];omega) fun hsh=>?_,fun p hp=>?_,fun hsh=>?_,HXR7.out⟩
    ·have h1:=HA.out.length (by rw [altP_length,HTL.out]) (by omega)
     have h3:=HL3.out.length (by simp [altP_length,code_length,HTL.out];omega) (by omega)
     have e4:(L4.length:Int)=((L.length+(lensS (trs (l.take i))+2*i)+1+lenS ut+1:Nat):Int):=by omega
     have e:=modify_mid (altP (trs (l.take i)) L.length) (codeS ut (L.length+(lensS (trs (l.take i))+2*i+1))++[⟨7,((L.length+(lensS (trs (l.take i))+2*i+1+lenS ut):Nat):Int)+1,0,0,[]⟩]) ⟨2,((L.length+(lensS (trs (l.take i))+2*i):Nat):Int)+1,0,0,[]⟩ (fY (L4.length:Int)) (L'.length - L.length) (by rw [altP_length,HTL.out];omega)
     have e5:L.length+(lensS (trs (l.take i))+2*i+1+lenS ut)=L.length+(lensS (trs (l.take i))+2*i)+1+lenS ut:=by omega
     rw [HTK.out,altP_app,HTL.out]
     simp only [zyF,zzi,zzn] at e ⊢
     rw [e,e4,e5]
     rfl
    ·rw [hls]
     rcases zzM.1 hp with hp | hp
     ·have:=HOP.out p hp;omega
     ·rw [zzE] at hp;omega
    ·rw [hls] at hsh
     have h3:=HL3.out.length (by simp [altP_length,code_length,HTL.out];omega) (by omega)
     rw [HTK.out,nopsS_app,HTL.out,HOK.out (by omega),h3]
     congr 2
     omega
   case measure=>simp [intOf];omega
  ·have him:i=m:=by omega
   subst him
   have hlt2:¬((i:Int) < (i:Int)):=by omega
   have hil:i < l.length:=by have:=HM.out;omega
   obtain ⟨u,hu⟩:∃ u,l[i]?=some u:=⟨_,zzJ hil⟩
   have hum:u∈l:=zzL hu
   have hB:Below rb w wr:=HR.out.low hq.rk
   have hcell:∀ j,j < 9→wr.cell? ⟨b,off+i*9+j,none⟩=u.vals[j]?:=fun j hj=>by
    rw [zzy,←HNN.out.node hu hj]
    exact (hB.cell (p:=⟨b,off+(i*9+j),none⟩) (HS.out b hSb))
   have HTK:=zzA (show trs l=trs (l.take i)++[u.tr] from by rw [←List.take_length (l:=l),HM.out,zyD,hu,trs_map,trs_map,zzT,List.take_append_of_le_length (by rw [List.length_take];omega),List.take_take,Nat.min_self];rfl)
   have HTL:=zzA (show (trs (l.take i)).length=i from by rw [trs_length,List.length_take];omega)
   have hle:lensS (trs l)=lensS (trs (l.take i))+lenS u.tr:=by rw [HTK.out,lensS_app,lensS,lensS];omega
   have hqle:=hq.le
   have hqge:=hq.ge
   have HI:=zzA (HIH.out u hum _ S wr rb v' L' ((HLS.out u hum).below HS.out hB) HS.out hq.row (by omega))
   have kS:wr.cell? ⟨w.heap.size,3,none⟩=some (.slice (some ⟨b,off,none⟩) l.length sc):=hxr.blk.cell 3
   have HQ:=zzA hq
   have HOR:=zzA hor
   have HOP:=zzA hop
   have HOK:=zzA hok
   have HOS:=zzA hos
   clear hu hum hq hor hxr hop hok hB hos
   obtain ⟨ut,hut⟩:∃ q,q=u.tr:=⟨_,rfl⟩
   rw [←hut] at HI HTK hle
   clear hut
   have hob:os.length≤1048576:=by have:=HOS.out;omega
   have HLE:=zzA hle
   have HLN:=zzA hl
   clear hle hl hln
   cases u with
   | mk k' r' ra' rc' a' l' sa' sc' n' m' z' i' s' =>
   simp only [Ta.vals] at hcell
   simp only [Ta.val,Ta.vals] at HI
   have c0:=hcell 0 (by omega)
   have c1':=hcell 1 (by omega)
   have c2':=hcell 2 (by omega)
   have c3:=hcell 3 (by omega)
   have c4:=hcell 4 (by omega)
   have c5:=hcell 5 (by omega)
   have c6:=hcell 6 (by omega)
   have c7:=hcell 7 (by omega)
   have c8:=hcell 8 (by omega)
   simp only [zzR,zzX,Nat.add_zero] at c0 c1' c2' c3 c4 c5 c6 c7 c8
   clear hcell
   obtain ⟨oa,oc,hoe⟩:=own_shape HOR.out.own
   subst hoe
   go_wp2_with fail
   refine HI.out.mono ?_
   rintro e w3 ⟨rfl,v3,L3,hL3⟩
   have hle3:=hL3.le
   have hge3:=hL3.ge
   have HL3:=zzA (HQ.out.seq (by simp [altP_length,HTL.out]) (codeS ut) hL3)
   have HOR3:=zzA (hL3.rk.or HOR.out)
   clear hL3 kS c0 c1' c2' c3 c4 c5 c6 c7 c8 HI
   simp only []
   go_wp2_with fail
   go_loopw [60] (fun iv wr=>∃ (k:Nat) (v':Value) (L5:List InV),k≤os.length∧iv=.int .i64 (k:Int)∧L5.length=L3.length∧OR rb (w.heap.size+1) v' (.slice oa os.length oc) os wr∧LP ((Value.slice oa os.length oc).ownBlock.toList++X) rb v w L (lensS (trs (l.take i))+2*i+lenS ut) ((os.take k).foldl (fun c o=>c.modify (o - L.length) (fX (L3.length:Int))) (altP (trs (l.take i)) L.length++codeS ut (L.length+(lensS (trs (l.take i))+2*i)))) v' L5 wr) (fun iv _=>os.length - (intOf iv).toNat)
   case atStart=>exact ⟨0,v3,L3,zzZ _,rfl,rfl,HOR3.out,HL3.out⟩
   case round =>
    obtain ⟨k,v5,L5,hk,rfl,hl5,hor5,hq5⟩:=hrel
    by_cases hlk:k < os.length
    ·have hlk2:(k:Int) < (os.length:Int):=by omega
     obtain ⟨go,rfl,-,-⟩:=own_form hor5.own (by omega)
     obtain ⟨p,hp⟩:∃ p,os[k]?=some p:=⟨_,zzJ hlk⟩
     have hpm:=HOP.out p (zzL hp)
     have o0:wr.cell? ⟨go,k,none⟩=some (.int .i64 (p:Int)):=own_cell hor5.own (by rw [zza,hp];rfl)
     obtain ⟨A5,c5,rfl⟩:=own_shape hq5.row.own
     obtain ⟨gi,rfl,-,-⟩:=hq5.slice (by omega)
     have hlt5:p < L5.length:=by omega
     obtain ⟨a5,ha5⟩:∃ a,L5[p]?=some a:=⟨_,zzJ hlt5⟩
     have hgr:gi≠rb:=fun e=>hq5.row.sep (by rw [e];rfl)
     have hb0:(0:Int)≤(p:Int):=by omega
     have hb1:(p:Int) < (L5.length:Int):=by omega
     have e0:wr.drew.cell? ⟨rb,0,none⟩=some (.slice (some ⟨gi,0,none⟩) L5.length c5):=hq5.row.blk.cell 0
     have hx0:wr.cell? ⟨gi,p*5+1,none⟩=some _:=hq5.cellX rfl ha5
     have fx0:=hq5.frozen rfl (p*5+1)
     have hN:=zzA (next_cell rb (some ⟨gi,0,none⟩) L5.length c5 wr.drew e0)
     have HA5:=zzA ha5
     have HP5:=zzA hp
     have HL5:=zzA hl5
     have HQ5:=zzA hq5
     have HOR5:=zzA hor5
     have hk7:RKI rb (.slice (some ⟨gi,0,none⟩) L5.length c5) wr (.slice (some ⟨gi,0,none⟩) L5.length c5) (wr.setCell ⟨gi,p*5+1,none⟩ (.int .i64 (L5.length:Int))).drew:=RowI.set_k.trans (RKI.of_below (bdrewN (zzb _ _) 1))
     have HOR6:=zzA (hk7.or hor5)
     have HL6:=zzA ((hq5.setX rfl ha5 hpm.1 (L5.length:Int)).drew)
     clear ha5 hp hl5 hq5 hor5 hk7
     go_wp2_with fail
     go_region_held3 (fun w'=>w'.cell? ⟨rb,0,none⟩=some (.slice (some ⟨gi,0,none⟩) L5.length c5)) (first | with_reducible exact e0 | exact (World.cell?_setCell_far _ _ _ _ hgr).trans e0 | go_keep) (first | (go_at_call 44;refine hN.out.mono ?_;rintro e wn ⟨rfl,hwn⟩;subst wn;simp only []))
     go_wp2_with fail
     go_roundw
     case rel=>exact ⟨k+1,_,_,by omega,by go_num,by rw [zzu];exact HL5.out,HOR6.out,LP.finish HL6.out rfl fun _=>by rw [zyD,HP5.out,HL5.out,List.foldl_append];rfl⟩
     case measure=>simp [intOf];omega
    ·have hke:k=os.length:=by omega
     subst hke
     have hlk2:¬((os.length:Int) < (os.length:Int)):=by omega
     go_wp2_with fail
     go_end0
     rw [List.take_length] at hq5
     refine ⟨rfl,v5,L5,(hq5.finish (by have:=HLE.out;omega) fun hsh=>?_).more fun x hx=>zzV _ hx⟩
     have h3:=HL3.out.length (by simp [altP_length,code_length,HTL.out]) (by omega)
     have hle:=HLE.out
     have e:=altP_end L3.length ut (trs (l.take i)) L.length L.length [] rfl
     rw [zzn,zzn,HTL.out,←HOK.out (by omega),←HTK.out] at e
     rw [e]
     congr 1
     omega
end Go.Proofs.YtgkclnmmjedmkaaGreat
