/- meaning.unfolded: a node that is no repeat. -/
import Derived.Deep.RegionLaw
import Derived.BigQuiet
import Derived.Test.YtgkclnmmjedmkaaGreatP12
set_option maxRecDepth 100000
set_option maxHeartbeats 4000000
namespace Go.Proofs.YtgkclnmmjedmkaaGreat
open Go.RowKit Tr
theorem node_info:(Tryz.prog.info? 69).map (fun i=>(i.zero,i.size,i.bytes))=some (some (.pointer none),1,8):=by kernel_rfl
def UfOk (t:Ta):Prop:=∀ (S:Nat→Prop) (w:World),RT w S t→allB t.tr=true→(∀ b,S b→b < w.heap.size) →
  Calls Tryz.prog 29 #[t.val] w fun e w'=>∃ u:Mean.Un,e=.returned (.pointer (some ⟨u.ad,0,none⟩))∧shU u=unfS t.tr∧UT w' S (Fr w.heap.size [] w') u∧Below w.heap.size w w'
theorem unf_other (k:Int) (r:List (Int × Int)) (ra:Option Addr) (rc:Nat) (ast:Int) (l:List Ta) (sa:Option Addr) (sc:Nat) (mn mx:Int) (z:Bool) (ix:Int) (nm:ByteArray) (hk:k≠6) (ih:∀ u∈l,UfOk u):UfOk (Ta.mk k r ra rc ast l sa sc mn mx z ix nm):=by
 intro S w h hall hS
 obtain ⟨i0,hi,hz0,hz1,hz2⟩:=info_parts node_info
 obtain ⟨⟨hrr,hrl,hll,-⟩,hN,hL⟩:=h.parts
 obtain ⟨-,hsb⟩:=(allB_iff _).1 hall
 rw [Ta.tr_subs] at hsb
 have HSB:=zzA (show ∀ u∈l,allB u.tr=true from fun u hu=>hsb _ (zzp.2 ⟨u,hu,rfl⟩))
 have IH:=zzA ih
 have HN:=zzA hN
 have HL:=zzA hL
 have HS:=zzA hS
 have HRR:=zzA hrr
 have hsc:=hN.1
 have hsc2:=hN.2.1
 obtain ⟨U0,hU0⟩:∃ U0,U0=unfS (Ta.mk k r ra rc ast l sa sc mn mx z ix nm).tr:=⟨_,rfl⟩
 rw [←hU0]
 have HU:=zzA (show U0=.mk k r ast ix false (unfSs (trs l)) from by rw [hU0,Ta.tr,unfS,if_pos hk])
 clear hU0 hsb hall ih hL hS h hrr hN
 have hb0:Below w.heap.size w (w.alloc (.cells #[.int .i64 k,.slice ra r.length rc,.int .i64 ast,.slice sa l.length sc,.int .i64 mn,.int .i64 mx,.bool z,.int .i64 ix,.string nm] 25)):=(zzb _ _).alloc (zzF _) _
 have hbl:=zyI w 25 [.int .i64 k,.slice ra r.length rc,.int .i64 ast,.slice sa l.length sc,.int .i64 mn,.int .i64 mx,.bool z,.int .i64 ix,.string nm]
 have hb1:Below w.heap.size w ((w.alloc (.cells #[.int .i64 k,.slice ra r.length rc,.int .i64 ast,.slice sa l.length sc,.int .i64 mn,.int .i64 mx,.bool z,.int .i64 ix,.string nm] 25)).alloc (.cells #[.int .i64 k,.slice ra r.length rc,.int .i64 ast,.int .i64 ix,.bool false,.slice none 0 0] 110)):=hb0.alloc (by simp) _
 have hnb:Blk ((w.alloc (.cells #[.int .i64 k,.slice ra r.length rc,.int .i64 ast,.slice sa l.length sc,.int .i64 mn,.int .i64 mx,.bool z,.int .i64 ix,.string nm] 25)).alloc (.cells #[.int .i64 k,.slice ra r.length rc,.int .i64 ast,.int .i64 ix,.bool false,.slice none 0 0] 110)) (w.heap.size+1) 110 ([.int .i64 k,.slice ra r.length rc,.int .i64 ast,.int .i64 ix,.bool false]++[.slice none 0 0]):=by
  have:=zyI (w.alloc (.cells #[.int .i64 k,.slice ra r.length rc,.int .i64 ast,.slice sa l.length sc,.int .i64 mn,.int .i64 mx,.bool z,.int .i64 ix,.string nm] 25)) 110 [.int .i64 k,.slice ra r.length rc,.int .i64 ast,.int .i64 ix,.bool false,.slice none 0 0]
  rw [show (w.alloc (.cells #[.int .i64 k,.slice ra r.length rc,.int .i64 ast,.slice sa l.length sc,.int .i64 mn,.int .i64 mx,.bool z,.int .i64 ix,.string nm] 25)).heap.size=w.heap.size+1 from by simp] at this
  exact this
 have hbl1:=hbl.alloc (.cells #[.int .i64 k,.slice ra r.length rc,.int .i64 ast,.int .i64 ix,.bool false,.slice none 0 0] 110)
 have HROW:=zzA (show RowU ((w.alloc (.cells #[.int .i64 k,.slice ra r.length rc,.int .i64 ast,.slice sa l.length sc,.int .i64 mn,.int .i64 mx,.bool z,.int .i64 ix,.string nm] 25)).alloc (.cells #[.int .i64 k,.slice ra r.length rc,.int .i64 ast,.int .i64 ix,.bool false,.slice none 0 0] 110)) S w.heap.size (w.heap.size+1) [.int .i64 k,.slice ra r.length rc,.int .i64 ast,.int .i64 ix,.bool false] (.slice none 0 0) [] from
  ⟨hnb,World.ownsRow_nil _ _ _ _,by simp,by simp,hb1.size,fun b hb=>⟨HS.out b hb,by have:=HS.out b hb;omega⟩⟩)
 have HB1:=zzA hb1
 have HBL1:=zzA hbl1
 obtain ⟨t0,t1,t2,t3,t4,t5,t6,t7,t8⟩:=bc9 (hbl)
 have s3:((w.alloc (.cells #[.int .i64 k,.slice ra r.length rc,.int .i64 ast,.slice sa l.length sc,.int .i64 mn,.int .i64 mx,.bool z,.int .i64 ix,.string nm] 25)).alloc (.cells #[.int .i64 k,.slice ra r.length rc,.int .i64 ast,.int .i64 ix,.bool false,.slice none 0 0] 110)).cell? ⟨w.heap.size,3,none⟩=some (.slice sa l.length sc):=hbl1.cell 3
 have hk2:(k != 6)=true:=bne_iff_ne.2 hk
 clear hb0 hbl hb1 hnb hbl1
 simp only [Ta.val,Ta.vals]
 go_enter Tryz.func29,Tryz.ntmps29
 go_wp2_with fail
 generalize ((w.alloc (.cells #[.int .i64 k,.slice ra r.length rc,.int .i64 ast,.slice sa l.length sc,.int .i64 mn,.int .i64 mx,.bool z,.int .i64 ix,.string nm] 25)).alloc (.cells #[.int .i64 k,.slice ra r.length rc,.int .i64 ast,.int .i64 ix,.bool false,.slice none 0 0] 110))=w1 at *
 clear t0 t1 t2 t3 t4 t5 t6 t7 t8 s3
 go_loopw [27] (fun iv wr=>∃ (i:Nat) (v:Value) (us:List Mean.Un),i≤l.length∧iv=.int .i64 (i:Int)∧us.length=i∧shUs us=unfSs (trs (l.take i))∧RowU wr S w.heap.size (w.heap.size+1) [.int .i64 k,.slice ra r.length rc,.int .i64 ast,.int .i64 ix,.bool false] v us∧Below w.heap.size w wr) (fun iv _=>l.length - (intOf iv).toNat)
 case atStart=>exact ⟨0,_,[],zzZ _,rfl,rfl,by rw [List.take_zero];rfl,HROW.out,HB1.out⟩
 case round =>
  obtain ⟨i,v,us,hi0,rfl,hul,hsh,hrow,hb⟩:=hrel
  obtain ⟨A,c,rfl⟩:=own_shape hrow.own
  by_cases hlt:i < l.length
  ·have hlt2:(i:Int) < (l.length:Int):=by omega
   obtain ⟨b,off,rfl,hSb,_⟩:=HN.out.2.2.2.2 (by omega)
   obtain ⟨u,hu⟩:∃ u,l[i]?=some u:=⟨_,zzJ hlt⟩
   have hum:u∈l:=zzL hu
   have hbb:=HS.out b hSb
   have hcell:∀ j,j < 9→wr.cell? ⟨b,off+i*9+j,none⟩=u.vals[j]?:=fun j hj=>by
    rw [zzy,←HN.out.node hu hj]
    exact hb.cell (p:=⟨b,off+(i*9+j),none⟩) hbb
   have hba:Below wr.heap.size wr (wr.alloc (.cells u.vals.toArray 25)).drew:=bdrewN ((zzb _ _).alloc (zzF _) _) 1
   have hbw:=hb.trans (hba.mono hb.size)
   have HIN:=zzA (IH.out u hum S (wr.alloc (.cells u.vals.toArray 25)).drew ((HL.out u hum).below HS.out hbw) (HSB.out u hum) (fun b hb'=>zzQ (HS.out b hb') hbw.size))
   have HROW2:=zzA (hrow.later hba)
   have HBA:=zzA hbw
   have HUB:=zzA (zyI wr 25 u.vals)
   have HSH:=zzA (show unfSs (trs (l.take (i+1)))=unfSs (trs (l.take i))++[unfS u.tr] from by rw [zyD,hu,trs_map,trs_map,unfSs_map,unfSs_map];simp)
   have HSH0:=zzA hsh
   have HB:=zzA hb
   have HB9:=zzA (hrow.blk.lt)
   cases u with
   | mk k' r' ra' rc' a' l' sa' sc' n' m' z' i' s' =>
   simp only [Ta.vals] at hcell HBA HUB HROW2
   simp only [Ta.val,Ta.vals] at HIN
   have c0:=hcell 0 (by omega)
   have c1':=hcell 1 (by omega)
   have c2':=hcell 2 (by omega)
   have c3:=hcell 3 (by omega)
   have c4:=hcell 4 (by omega)
   have c5:=hcell 5 (by omega)
   have c6:=hcell 6 (by omega)
   have c7:=hcell 7 (by omega)
   have c8:=hcell 8 (by omega)
   simp only [zzR,zzX,Nat.add_zero] at c0 c1' c2' c3 c4 c5 c6 c7 c8
   clear hcell hu hba hbw hum hrow hsh hb hSb
   subst hul
   go_wp2_with fail
   generalize hb9:wr.heap.size=b9 at *
   generalize hw2:wr.alloc (.cells #[.int .i64 k',.slice ra' r'.length rc',.int .i64 a',.slice sa' l'.length sc',.int .i64 n',.int .i64 m',.bool z',.int .i64 i',.string s'] 25)=w2 at *
   obtain ⟨cA0,cA1,cA2,cA3,cA4,cA5,cA6,cA7,cA8⟩:=bc9 (HUB.out)
   have q35a:w2.drew.cell? ⟨w.heap.size+1,5,none⟩=some (.slice A us.length c):=HROW2.out.blk.cell 5
   have hb9':w.heap.size+1 < b9:=by have:=HB9.out;omega
   clear c0 c1' c2' c3 c4 c5 c6 c7 c8
   go_region_law (first
    | (refine step_call rfl 29 (.tmp 36) 25 rfl _ rfl (enters0 Tryz.func29 (by kernel_rfl) (by kernel_rfl)) ?_;refine HIN.out.mono ?_;rintro e w5 ⟨u5,rfl,hsh5,hut5,hb5⟩;have HSH5:=zzA hsh5;have HUT5:=zzA hut5;have HB5:=zzA hb5;have HUB5:=zzA (HUB.out.drew.below hb5 HUB.out.drew.lt);have cB0:w5.cell? ⟨b9,0,none⟩=some (.int .i64 k'):=HUB5.out.cell 0;have cB1:w5.cell? ⟨b9,1,none⟩=some (.slice ra' r'.length rc'):=HUB5.out.cell 1;have cB2:w5.cell? ⟨b9,2,none⟩=some (.int .i64 a'):=HUB5.out.cell 2;have cB3:w5.cell? ⟨b9,3,none⟩=some (.slice sa' l'.length sc'):=HUB5.out.cell 3;have cB4:w5.cell? ⟨b9,4,none⟩=some (.int .i64 n'):=HUB5.out.cell 4;have cB5:w5.cell? ⟨b9,5,none⟩=some (.int .i64 m'):=HUB5.out.cell 5;have cB6:w5.cell? ⟨b9,6,none⟩=some (.bool z'):=HUB5.out.cell 6;have cB7:w5.cell? ⟨b9,7,none⟩=some (.int .i64 i'):=HUB5.out.cell 7;have cB8:w5.cell? ⟨b9,8,none⟩=some (.string s'):=HUB5.out.cell 8;have hrow5:=HROW2.out.later hb5;have q35b:w5.cell? ⟨w.heap.size+1,5,none⟩=some (.slice A us.length c):=hrow5.blk.cell 5;have hba5:Below w5.heap.size w5 (w5.alloc (.cells #[.pointer (some ⟨u5.ad,0,none⟩)] 69)):=(zzb _ _).alloc (zzF _) _;have HBA5:=zzA hba5;have hrowA:=hrow5.later hba5;have q35c:(w5.alloc (.cells #[.pointer (some ⟨u5.ad,0,none⟩)] 69)).cell? ⟨w.heap.size+1,5,none⟩=some (.slice A us.length c):=hrowA.blk.cell 5;have HROWA:=zzA hrowA;have HUBA:=zzA (HUB5.out.below hba5 HUB5.out.lt);have HNEW:=zzA (Reads.of_own (own_lit w5 w5.heap.size 69 1 1 #[.pointer (some ⟨u5.ad,0,none⟩)] (uptrs [u5]) (zzF _) (by simp [uptrs]) (by simp [uptrs]) (by decide)));clear hsh5 hut5 hb5 hrow5 hba5 hrowA;refine ⟨_,rfl,?_⟩;simp only [Act.put,List.getElem_toArray,List.getElem_cons_succ,List.getElem_cons_zero,zzB,zzD,zzC])
    | (refine step_append_reads rfl (.tmp 35) (.tmp 38) 108 rfl w.heap.size 69 i0 (.pointer none) 1 8 Tryz.underlying108 hi hz0 hz1 hz2 rfl (by decide) (.slice A us.length c) us.length (uptrs us) rfl HROWA.out.own (some ⟨w5.heap.size,0,none⟩) _ 1 1 (uptrs [u5]) rfl (fun h=>by cases h) HNEW.out (fun x hx=>by simp only [uptrs,zzS,zzt,zzE] at hx;subst hx;rfl) (by unfold maxLen;omega) (by omega) HROWA.out.base ?_;intro A7 c7 w7 ha7;have HA7:=zzA ha7;have hnb7:=HROWA.out.blk.grown ha7.grown HROWA.out.sep;have r5:=hnb7.cell 5;have f5:=hnb7.frozen 5;have hub7:=HUBA.out.grown ha7.grown (blk_apart HROWA.out.own HUBA.out (by decide));have hub8:=hub7.far (p:=⟨w.heap.size+1,5,none⟩) (show b9≠w.heap.size+1 from by omega) (.slice A7 (us.length+1) c7);clear ha7 hnb7 hub7 hub8;simp only [Act.put,List.getElem_toArray,List.getElem_cons_succ,List.getElem_cons_zero,zzB,zzD,zzC]))
   all_goals (go_wp2_with fail)
   all_goals
    have HPUT:=zzA (RowU.put (f5:=rfl) HROW2.out HUT5.out HB5.out HBA5.out HA7.out)
    go_roundw
    case rel =>
     exact ⟨us.length+1,_,us++[u5],hlt,by go_num,by simp,by rw [HSH.out,←HSH0.out,shUs_map,shUs_map,zzT,List.map_singleton,HSH5.out],HPUT.out.1,zyH HBA.out HPUT.out.2.1 (HROW2.out.mut_ge (zzF _) (by omega)) HBA.out.size⟩
    case measure=>simp [intOf];omega
  ·obtain rfl:i=l.length:=by omega
   have hlt2:¬((l.length:Int) < (l.length:Int)):=by omega
   have HROW9:=zzA hrow
   have HB9:=zzA hb
   have HSH9:=zzA hsh
   clear hrow hb hsh
   go_wp2_with fail
   go_ret
   have hdone:=RowU.done (k:=k) (r:=r) (ra:=ra) (rc:=rc) (a:=ast) (i:=ix) (z:=false) (us:=us) (A:=A) (c:=c) HROW9.out (HRR.out.go fun b hb'=>HB9.out.block b (HS.out b hb')) (zzF _) (by omega)
   refine ⟨_,rfl,?_,hdone,HB9.out⟩
   rw [HU.out,shU,HSH9.out,List.take_length]
structure XOk (w:World) (S:Nat→Prop) (b0 b off sc:Nat) (x:Ta):Prop where
 box:w.cell? ⟨b0,3,none⟩=some (.slice (some ⟨b,off,none⟩) 1 sc)
 cells:∀ j,j < 9→w.cell? ⟨b,off+j,none⟩=x.vals[j]?
 tree:RT w S x
 sub:∀ c,S c→c < w.heap.size
 lt:b0 < w.heap.size
 inS:S b
theorem XOk.kept {w w':World} {S:Nat→Prop} {b0 b off sc:Nat} {x:Ta} {L:List Nat} (h:XOk w S b0 b off sc x) (k:Kept w w' L) (h0:b0 ∉ L) (hL:∀ c,S c→c ∉ L):XOk w' S b0 b off sc x :=
 ⟨(k.cell (p:=⟨b0,3,none⟩) h.lt h0).trans h.box,fun j hj=>(k.cell (p:=⟨b,off+j,none⟩) (h.sub b h.inS) (hL b h.inS)).trans (h.cells j hj),h.tree.go fun c hc=>k.block c (h.sub c hc) (hL c hc),fun c hc=>zzQ (h.sub c hc) k.size,zzQ h.lt k.size,h.inS⟩
theorem ufx_any (x:Ta) (hx:UfOk x) (hall:allB x.tr=true) (S:Nat→Prop) (b0 b off sc:Nat) (w:World) (h:XOk w S b0 b off sc x) :
  Calls Tryz.prog 55 #[.pointer (some ⟨b0,0,none⟩)] w fun e w'=>∃ u:Mean.Un,e=.returned (.pointer (some ⟨u.ad,0,none⟩))∧shU u=unfS x.tr∧UT w' S (Fr w.heap.size [] w') u∧Below w.heap.size w w':=by
 have HIN:=zzA (hx S w h.tree hall h.sub)
 have hcell:=h.cells
 have b3:=h.box
 have hlt1:(0:Int) < 1:=by decide
 cases x with
 | mk k' r' ra' rc' a' l' sa' sc' n' m' z' i' s' =>
 simp only [Ta.vals] at hcell
 simp only [Ta.val,Ta.vals] at HIN
 have c0:=hcell 0 (by omega)
 have c1':=hcell 1 (by omega)
 have c2':=hcell 2 (by omega)
 have c3:=hcell 3 (by omega)
 have c4:=hcell 4 (by omega)
 have c5:=hcell 5 (by omega)
 have c6:=hcell 6 (by omega)
 have c7:=hcell 7 (by omega)
 have c8:=hcell 8 (by omega)
 simp only [zzR,zzX,Nat.add_zero] at c0 c1' c2' c3 c4 c5 c6 c7 c8
 clear hcell hx hall h
 go_enter Tryz.func55,Tryz.ntmps55
 go_wp2_with fail
 refine HIN.out.mono ?_
 rintro e w2 ⟨u,rfl,h1,h2,h3⟩
 have H1:=zzA h1
 have H2:=zzA h2
 have H3:=zzA h3
 clear h1 h2 h3
 simp only []
 go_wp2_with fail
 go_ret
 exact ⟨_,rfl,H1.out,H2.out,H3.out⟩
theorem ufloop_any (kd:Int) (z:Bool) (of:Mean.Un) (S:Nat→Prop) (b0 B:Nat) (w:World) (hz:w.cell? ⟨b0,6,none⟩=some (.bool z)) (hof:UT w S (Fr B [] w) of) (hB:B≤w.heap.size) (hS:∀ b,S b→b < w.heap.size) :
  Calls Tryz.prog 56 #[.int .i64 kd,.pointer (some ⟨of.ad,0,none⟩),.pointer (some ⟨b0,0,none⟩)] w fun e w'=>∃ u:Mean.Un,e=.returned (.pointer (some ⟨u.ad,0,none⟩))∧shU u=loopU kd z (shU of)∧UT w' S (Fr B [] w') u∧Below w.heap.size w w':=by
 have hbl:=zze w _ hz
 have hb1:Below w.heap.size w (w.alloc (.cells #[.pointer (some ⟨of.ad,0,none⟩)] 69)):=(zzb _ _).alloc (zzF _) _
 have hb2:Below w.heap.size w ((w.alloc (.cells #[.pointer (some ⟨of.ad,0,none⟩)] 69)).alloc (.cells #[.int .i64 kd,.slice none 0 0,.int .i64 0,.int .i64 0,.bool z,.slice (some ⟨w.heap.size,0,none⟩) 1 1] 110)):=hb1.alloc (by simp) _
 have k1:=(zyI w 69 [.pointer (some ⟨of.ad,0,none⟩)]).alloc (.cells #[.int .i64 kd,.slice none 0 0,.int .i64 0,.int .i64 0,.bool z,.slice (some ⟨w.heap.size,0,none⟩) 1 1] 110)
 have k2:=zyI (w.alloc (.cells #[.pointer (some ⟨of.ad,0,none⟩)] 69)) 110 [.int .i64 kd,.slice none 0 0,.int .i64 0,.int .i64 0,.bool z,.slice (some ⟨w.heap.size,0,none⟩) 1 1]
 rw [show (w.alloc (.cells #[.pointer (some ⟨of.ad,0,none⟩)] 69)).heap.size=w.heap.size+1 from by simp] at k2
 have hfin:UT ((w.alloc (.cells #[.pointer (some ⟨of.ad,0,none⟩)] 69)).alloc (.cells #[.int .i64 kd,.slice none 0 0,.int .i64 0,.int .i64 0,.bool z,.slice (some ⟨w.heap.size,0,none⟩) 1 1] 110)) S (Fr B [] ((w.alloc (.cells #[.pointer (some ⟨of.ad,0,none⟩)] 69)).alloc (.cells #[.int .i64 kd,.slice none 0 0,.int .i64 0,.int .i64 0,.bool z,.slice (some ⟨w.heap.size,0,none⟩) 1 1] 110))) (.mk (w.heap.size+1) kd [] 0 0 z [of]):=by
  have h0:=hof.below hS hb2
  refine ⟨fun n hn=>?_,?_⟩
  ·rw [Mean.all_subs,Mean.allU_flat] at hn
   rcases zzN.1 hn with rfl | hn
   ·refine ⟨none,0,some ⟨w.heap.size,0,none⟩,1,⟨show B≤w.heap.size+1 from by omega,k2.lt,by simp⟩,k2,RdA.none_,⟨zzF _,by decide,rfl,(fun h=>by cases h),fun _=>⟨w.heap.size,0,rfl,⟨hB,k1.lt,by simp⟩,fun j v hj=>?_⟩⟩⟩
    rw [zzw,k1.cell];exact hj
   ·exact h0.nodes n (by simpa [Mean.Un.subs] using hn)
  ·rw [Mean.all_subs,Mean.allU_flat,zzS]
   refine List.nodup_cons.2 ⟨fun hm=>?_,by simpa [Mean.Un.subs] using hof.nodup⟩
   have:=(hof.mem (b:=w.heap.size+1) (by simpa [Mean.Un.subs,Mean.Un.ad] using hm)).2.1
   omega
 have HF:=zzA hfin
 have HB2:=zzA hb2
 have hz1:(w.alloc (.cells #[.pointer (some ⟨of.ad,0,none⟩)] 69)).cell? ⟨b0,6,none⟩=some (.bool z):=(hb1.cell (p:=⟨b0,6,none⟩) hbl).trans hz
 have HSH:=zzA (show shU (.mk (w.heap.size+1) kd [] 0 0 z [of])=loopU kd z (shU of) from rfl)
 generalize of.ad=oa at *
 clear hfin hb1 hb2 k1 k2 hof hB hS
 go_enter Tryz.func56,Tryz.ntmps56
 go_wp2_with fail
 go_ret
 exact ⟨_,rfl,HSH.out,HF.out,HB2.out⟩
structure RepOk (w1:World) (S:Nat→Prop) (b0 bx bo nb b off sc:Nat) (x:Ta) (w:World) (v:Value) (us:List Mean.Un):Prop where
 kept:Kept w1 w [nb]
 row:RowU w S w1.heap.size nb [.int .i64 4,.slice none 0 0,.int .i64 0,.int .i64 0,.bool false] v us
 x:XOk w S b0 b off sc x
 cx:w.cell? ⟨bx,0,none⟩=some (.func (Fn.func 55) #[] #[.pointer (some ⟨b0,0,none⟩)])
 co:w.cell? ⟨bo,0,none⟩=some (.pointer (some ⟨nb,0,none⟩))
 ne:b0≠nb∧bx≠nb∧bo≠nb∧b0 < w1.heap.size∧bx < w1.heap.size∧bo < w1.heap.size
section
variable {w1 w w':World} {S:Nat→Prop} {b0 bx bo nb b off sc:Nat} {x:Ta} {v v':Value} {us us':List Mean.Un}
theorem RepOk.keep (h:RepOk w1 S b0 bx bo nb b off sc x w v us) {L:List Nat} (k:Kept w w' L) (hL:∀ c∈L,c=nb∨w1.heap.size≤c) (hr:RowU w' S w1.heap.size nb [.int .i64 4,.slice none 0 0,.int .i64 0,.int .i64 0,.bool false] v' us'):RepOk w1 S b0 bx bo nb b off sc x w' v' us':=by
 obtain ⟨n1,n2,n3,n4,n5,n6⟩:=h.ne
 have ho:∀ c,c≠nb→c < w1.heap.size→c ∉ L:=fun c h1 h2 hm=>by
  rcases hL c hm with e | e
  ·exact h1 e
  ·omega
 have hs:=h.kept.size
 refine ⟨(h.kept.trans k).more fun c hc=>?_,hr,h.x.kept k (ho b0 n1 n4) fun c hc=>ho c (h.row.sub c hc).2 (h.row.sub c hc).1,?_,?_,h.ne⟩
 ·rcases zzM.1 hc with hc | hc
  ·exact .inl hc
  ·rcases hL c hc with e | e
   ·exact .inl (by simp [e])
   ·exact .inr e
 ·exact (k.cell (p:=⟨bx,0,none⟩) (zzQ n5 hs) (ho bx n2 n5)).trans h.cx
 ·exact (k.cell (p:=⟨bo,0,none⟩) (zzQ n6 hs) (ho bo n3 n6)).trans h.co
theorem RepOk.later (h:RepOk w1 S b0 bx bo nb b off sc x w v us) (hb:Below w.heap.size w w'):RepOk w1 S b0 bx bo nb b off sc x w' v us :=
 h.keep (Kept.of_below (L:=[]) hb) (by simp) (h.row.later hb)
end
theorem uftimes_any (x:Ta) (hx:UfOk x) (hall:allB x.tr=true) (S:Nat→Prop) (w1:World) (b0 bx bo nb b off sc m:Nat) (w:World) (v:Value) (us:List Mean.Un) (h:RepOk w1 S b0 bx bo nb b off sc x w v us) (hm:us.length+m≤1048576) :
  Calls Tryz.prog 57 #[.int .i64 (m:Int),.pointer (some ⟨bo,0,none⟩),.pointer (some ⟨bx,0,none⟩)] w fun e w'=>e=.returned (.tuple #[])∧∃ v' us',RepOk w1 S b0 bx bo nb b off sc x w' v' (us++us')∧shUs us'=List.replicate m (unfS x.tr):=by
 obtain ⟨i0,hi,hz0,hz1,hz2⟩:=info_parts node_info
 have HR0:=zzA h
 have HX:=zzA hx
 clear h hx
 go_enter Tryz.func57,Tryz.ntmps57
 go_wp2_with fail
 go_loopw [5] (fun iv wr=>∃ (i:Nat) (v':Value) (us':List Mean.Un),i≤m∧iv=.int .i64 (i:Int)∧us'.length=i∧RepOk w1 S b0 bx bo nb b off sc x wr v' (us++us')∧shUs us'=List.replicate i (unfS x.tr)) (fun iv _=>m - (intOf iv).toNat)
 case atStart=>exact ⟨0,v,[],zzZ _,rfl,rfl,by rw [zzY];exact HR0.out,rfl⟩
 case round =>
  obtain ⟨i,v',us',hi0,rfl,hul,hr,hsh⟩:=hrel
  by_cases hlt:i < m
  ·have hlt2:(i:Int) < (m:Int):=by omega
   obtain ⟨A,c,rfl⟩:=own_shape hr.row.own
   have hr2:RepOk w1 S b0 bx bo nb b off sc x wr.drew (.slice A (us++us').length c) (us++us'):=hr.later (bdrewN (zzb _ _) 1)
   have HR2:=zzA hr2
   have HIN:=zzA (ufx_any x HX.out hall S b0 b off sc wr.drew hr2.x)
   have HSH:=zzA hsh
   obtain ⟨vs,hvs⟩:∃ vs,vs=us++us':=⟨_,rfl⟩
   rw [←hvs] at HR2
   have hvl:vs.length+1≤1048576:=by rw [hvs,zzG];omega
   have q0:wr.drew.cell? ⟨bo,0,none⟩=some (.pointer (some ⟨nb,0,none⟩)):=HR2.out.co
   have q1:wr.drew.cell? ⟨bx,0,none⟩=some (.func (Fn.func 55) #[] #[.pointer (some ⟨b0,0,none⟩)]):=HR2.out.cx
   have q2:wr.drew.cell? ⟨nb,5,none⟩=some (.slice A vs.length c):=HR2.out.row.blk.cell 5
   have HVS:=zzA hvs
   clear hr hr2 hsh hvs
   go_wp2_with fail
   go_region_law (first
    | (refine step_callv rfl 55 (.tmp 12) #[] #[] #[.pointer (some ⟨b0,0,none⟩)] rfl rfl #[] (by simp) (enters0 Tryz.func55 (by kernel_rfl) (by kernel_rfl)) ?_;refine HIN.out.mono ?_;rintro e w5 ⟨u5,rfl,hsh5,hut5,hb5⟩;have HSH5:=zzA hsh5;have HUT5:=zzA hut5;have HB5:=zzA hb5;have hr5:=HR2.out.later hb5;have r0:w5.cell? ⟨bo,0,none⟩=some (.pointer (some ⟨nb,0,none⟩)):=hr5.co;have r2:w5.cell? ⟨nb,5,none⟩=some (.slice A vs.length c):=hr5.row.blk.cell 5;have hba5:Below w5.heap.size w5 (w5.alloc (.cells #[.pointer (some ⟨u5.ad,0,none⟩)] 69)):=(zzb _ _).alloc (zzF _) _;have HBA5:=zzA hba5;have hrA:=hr5.later hba5;have s0:(w5.alloc (.cells #[.pointer (some ⟨u5.ad,0,none⟩)] 69)).cell? ⟨bo,0,none⟩=some (.pointer (some ⟨nb,0,none⟩)):=hrA.co;have s2:(w5.alloc (.cells #[.pointer (some ⟨u5.ad,0,none⟩)] 69)).cell? ⟨nb,5,none⟩=some (.slice A vs.length c):=hrA.row.blk.cell 5;have HRA:=zzA hrA;have HNEW:=zzA (Reads.of_own (own_lit w5 w5.heap.size 69 1 1 #[.pointer (some ⟨u5.ad,0,none⟩)] (uptrs [u5]) (zzF _) (by simp [uptrs]) (by simp [uptrs]) (by decide)));clear hsh5 hut5 hb5 hr5 hba5 hrA;refine ⟨_,rfl,?_⟩;simp only [Act.put,List.getElem_toArray,List.getElem_cons_succ,List.getElem_cons_zero,zzB,zzD,zzC])
    | (refine step_append_reads rfl (.tmp 11) (.tmp 14) 108 rfl w1.heap.size 69 i0 (.pointer none) 1 8 Tryz.underlying108 hi hz0 hz1 hz2 rfl (by decide) (.slice A vs.length c) vs.length (uptrs vs) rfl HRA.out.row.own (some ⟨w5.heap.size,0,none⟩) _ 1 1 (uptrs [u5]) rfl (fun h=>by cases h) HNEW.out (fun x hx=>by simp only [uptrs,zzS,zzt,zzE] at hx;subst hx;rfl) (by unfold maxLen;omega) (by omega) HRA.out.row.base ?_;intro A7 c7 w7 ha7;have HA7:=zzA ha7;have hnb7:=HRA.out.row.blk.grown ha7.grown HRA.out.row.sep;have r5:=hnb7.cell 5;have f5:=hnb7.frozen 5;have hbo7:w7.cell? ⟨bo,0,none⟩=some (.pointer (some ⟨nb,0,none⟩)):=((Kept.of_grown' ha7.grown).cell (p:=⟨bo,0,none⟩) (zzQ HRA.out.ne.2.2.2.2.2 HRA.out.kept.size) (fun hm=>by have:=HRA.out.row.own_ge bo hm;have:=HRA.out.ne.2.2.2.2.2;omega)).trans HRA.out.co;clear ha7 hnb7;simp only [Act.put,List.getElem_toArray,List.getElem_cons_succ,List.getElem_cons_zero,zzB,zzD,zzC]))
   all_goals (go_wp2_with fail)
   all_goals
    have HPUT:=zzA (RowU.put (f5:=rfl) HR2.out.row HUT5.out HB5.out HBA5.out HA7.out)
    go_roundw
    case rel=>exact ⟨i+1,_,us'++[u5],hlt,by go_num,by rw [zzG,hul];rfl,by rw [←zyF,←HVS.out];exact HR2.out.keep HPUT.out.2.1 (fun c hc=>by exact (zzN.1 hc).elim (fun e=>.inl e) (fun e=>.inr (HR2.out.row.own_ge c e))) HPUT.out.1,by rw [shUs_map,zzT,←shUs_map,HSH.out,List.map_singleton,HSH5.out,←List.replicate_succ']⟩
    case measure=>simp [intOf];omega
  ·obtain rfl:i=m:=by omega
   have hlt2:¬((i:Int) < (i:Int)):=by omega
   have HRR:=zzA hr
   have HSH:=zzA hsh
   clear hr hsh
   go_wp2_with fail
   go_end0
   exact ⟨rfl,_,_,HRR.out,HSH.out⟩
end Go.Proofs.YtgkclnmmjedmkaaGreat
