/- simplify.copied: a tree in memory of its own. -/
import Derived.Deep.RegionHeldLaw
import Derived.Deep.AppendLies
import Derived.Test.YtgkclnmmjedmkaaGreatP11
import Derived.Test.YtgkclnmmjedmkaaGreatP29
import Derived.Test.YtgkclnmmjedmkaaGreatP30
set_option maxRecDepth 100000
set_option maxHeartbeats 2000000
namespace Go.Proofs.YtgkclnmmjedmkaaGreat
open Go.RowKit Tr
theorem und_node:∃ d,Tryz.prog.underlying 25=some d∧isRow d=true:=⟨_,Tryz.underlying25,rfl⟩
theorem size_node:(Tryz.prog.info? 25).map (·.size)=some 9:=by kernel_rfl
theorem node_ret {fn:Func} {p:Tmp} (h:fn.results=#[.cell p 25]) (tmps:Array Value) (w:World) (g:Nat) (t:Ta) (hp:tmps.getD p undef=.pointer (some ⟨g,0,none⟩)) (hg:Blk w g 25 t.vals) :
  (results fn tmps).run Tryz.prog w=.ok t.val w:=by
 obtain ⟨d,hu,hd⟩:=und_node
 have hs:(Tryz.prog.info? 25).map (·.size)=some t.vals.toArray.size:=by rw [size_node,List.size_toArray,Ta.vals_length]
 exact results_cell_one h tmps w g 25 t.vals.toArray d hp (by simpa using hg) hu hd hs
def CP (t:Ta):Prop:=∀ (S:Nat→Prop) (w:World),RT w S t→(∀ b,S b→b < w.heap.size) →
  Calls Tryz.prog 76 #[t.val] w fun e w'=>∃ u:Ta,e=.returned u.val∧u.tr=t.tr∧RT w' (Fr w.heap.size [] w') u∧Below w.heap.size w w'
structure CS (w:World) (cs:List Value) (wr:World):Prop where
 below:Below w.heap.size w wr
 node:Blk wr w.heap.size 25 cs
 res:Blk wr (w.heap.size+1) 25 [.int .i64 0,.slice none 0 0,.int .i64 0,.slice none 0 0,.int .i64 0,.int .i64 0,.bool false,.int .i64 0,.string ⟨#[]⟩]
theorem cs_two (w:World) (k:Int) (ra:Option Addr) (nr rc:Nat) (ast:Int) (sa:Option Addr) (nl sc:Nat) (mn mx:Int) (z:Bool) (ix:Int) (nm:ByteArray):CS w [.int .i64 k,.slice ra nr rc,.int .i64 ast,.slice sa nl sc,.int .i64 mn,.int .i64 mx,.bool z,.int .i64 ix,.string nm] ((w.alloc (.cells #[.int .i64 k,.slice ra nr rc,.int .i64 ast,.slice sa nl sc,.int .i64 mn,.int .i64 mx,.bool z,.int .i64 ix,.string nm] 25)).alloc (.cells #[.int .i64 0,.slice none 0 0,.int .i64 0,.slice none 0 0,.int .i64 0,.int .i64 0,.bool false,.int .i64 0,.string ⟨#[]⟩] 25)):=⟨two_below w _ _,(zyI w 25 [.int .i64 k,.slice ra nr rc,.int .i64 ast,.slice sa nl sc,.int .i64 mn,.int .i64 mx,.bool z,.int .i64 ix,.string nm]).alloc _,two_blk w _ 25 [.int .i64 0,.slice none 0 0,.int .i64 0,.slice none 0 0,.int .i64 0,.int .i64 0,.bool false,.int .i64 0,.string ⟨#[]⟩]⟩
theorem CS.bel {w:World} {cs:List Value} {wr wq:World} (h:CS w cs wr) (hb:Below wr.heap.size wr wq):CS w cs wq :=
 ⟨h.below.trans (hb.mono h.below.size),h.node.below hb h.node.lt,h.res.below hb h.res.lt⟩
theorem CS.set_ {w:World} {cs:List Value} {wr:World} (h:CS w cs wr) (i:Nat) (v:Value):CS w (cs.set i v) (wr.setCell ⟨w.heap.size,i,none⟩ v) :=
 ⟨zyH h.below (zyG _ _) (by intro k hk;simp at hk;omega) h.below.size,h.node.set_ i v,h.res.kept (zyG ⟨w.heap.size,i,none⟩ v) (by simp)⟩
theorem CS.kept {w:World} {cs:List Value} {wr wq:World} {g:Nat} (h:CS w cs wr) (hb:Kept wr wq [g]) (hg:w.heap.size+1 < g):CS w cs wq :=
 ⟨zyH h.below hb (by intro k hk;simp at hk;omega) h.below.size,h.node.kept hb (by simp;omega),h.res.kept hb (by simp;omega)⟩
theorem copied_any:∀ t:Ta,CP t:=by
 intro t
 induction t using Ta.ind with
 | h t ih =>
  intro S w h hS
  cases t with
  | mk k r ra rc ast l sa sc mn mx z ix nm =>
  obtain ⟨⟨hR,hrl,hll,hnm⟩,hN,hL⟩:=h.parts
  have hsc:=hN.1
  have hsc2:=hN.2.1
  have hcs:=cs_two w k ra r.length rc ast sa l.length sc mn mx z ix nm
  have HCR:=zzA (clone_rng ra r.length rc r _ hR.2.2.2.1 (((hR.reads hS).below hcs.below).more hcs.below.size) (by omega))
  have HCS:=zzA hcs
  have hws:=hcs.res.lt
  have HWS:=zzA hws
  have HIH:=zzA ih
  have HR:=zzA hR
  have HN:=zzA hN
  have HL:=zzA hL
  have HSS:=zzA hS
  clear hcs ih hR hN hL hS h hws
  simp only [Ta.val,Ta.vals]
  go_enter Tryz.func76,Tryz.ntmps76
  go_wp2_with fail
  generalize ((w.alloc (.cells #[.int .i64 k,.slice ra r.length rc,.int .i64 ast,.slice sa l.length sc,.int .i64 mn,.int .i64 mx,.bool z,.int .i64 ix,.string nm] 25)).alloc (.cells #[.int .i64 0,.slice none 0 0,.int .i64 0,.slice none 0 0,.int .i64 0,.int .i64 0,.bool false,.int .i64 0,.string ⟨#[]⟩] 25))=w1 at *
  refine HCR.out.mono ?_
  rintro e w2 ⟨v,rfl,ho,hb2⟩
  have HC2:=zzA (HCS.out.bel hb2)
  have hws:=HWS.out
  have hw12:=hb2.size
  obtain ⟨ra',rc',rfl,hra⟩:=RdA.of_own (L:=[w.heap.size,w.heap.size+1]) (own_lower ho (show w.heap.size≤w1.heap.size from by omega)) (fun b hb=>by have:=(ho.lt b hb).1;simp;omega)
  have t1:w2.cell? ⟨w.heap.size,1,none⟩=some (.slice ra r.length rc):=HC2.out.node.cell 1
  have f1:=HC2.out.node.frozen 1
  have hl2:=HC2.out.node.lt
  have HRA:=zzA (hra.fr_kept (L':=[w.heap.size,w.heap.size+1]) (zyG ⟨w.heap.size,1,none⟩ (.slice ra' r.length rc')) (by simp) (by simp))
  have HC3:=zzA (HC2.out.set_ 1 (.slice ra' r.length rc'))
  clear ho hb2 hra HCR
  have t3:(w2.setCell ⟨w.heap.size,1,none⟩ (.slice ra' r.length rc')).cell? ⟨w.heap.size,3,none⟩=some (.slice sa l.length sc):=HC3.out.node.cell 3
  simp only []
  go_wp2_with fail
  generalize w2.setCell ⟨w.heap.size,1,none⟩ (.slice ra' r.length rc')=w3 at *
  have hRN3:=((HN.out.reads HSS.out).below HC3.out.below).more HC3.out.below.size
  refine (clone_nodes sa l.length sc l w3 HN.out.2.2.2.1 hRN3 (by omega)).mono ?_
  rintro e w4 ⟨v4,rfl,ho4,hb4⟩
  obtain ⟨sa',sc',g,zs,rfl,hn4,hc4,hA4,hg3,hpos⟩:=own_parts ho4
  have hw34:w3.heap.size≤w4.heap.size:=hb4.size
  have hw3:w.heap.size+1 < w3.heap.size:=HC3.out.res.lt
  have HC4:=zzA (HC3.out.bel hb4)
  have t3:w4.cell? ⟨w.heap.size,3,none⟩=some (.slice sa l.length sc):=HC4.out.node.cell 3
  have f3:=HC4.out.node.frozen 3
  have hl4:=HC4.out.node.lt
  have HC5:=zzA (HC4.out.set_ 3 (.slice sa' l.length sc'))
  have hk5:Kept w4 (w4.setCell ⟨w.heap.size,3,none⟩ (.slice sa' l.length sc')) [w.heap.size]:=zyG _ _
  have HRA5:=zzA ((HRA.out.fr_kept (L':=[w.heap.size,w.heap.size+1,g]) (Kept.of_below (L:=[]) hb4) (by simp) (by simp;omega)).fr_kept (L':=[w.heap.size,w.heap.size+1,g]) hk5 (by simp) (by simp))
  have hpos5:0 < l.length→sa'=some ⟨g,0,none⟩∧Blk (w4.setCell ⟨w.heap.size,3,none⟩ (.slice sa' l.length sc')) g 25 (rowT l++zs):=fun h0=>by
   obtain ⟨h1,h2⟩:=hpos h0
   exact ⟨h1,h2.kept hk5 (by simp;omega)⟩
  have HP5:=zzA hpos5
  have t5:(w4.setCell ⟨w.heap.size,3,none⟩ (.slice sa' l.length sc')).cell? ⟨w.heap.size,3,none⟩=some (.slice sa' l.length sc'):=HC5.out.node.cell 3
  clear ho4 hb4 hpos hk5 hpos5 hRN3
  simp only []
  go_wp2_with fail
  generalize w4.setCell ⟨w.heap.size,3,none⟩ (.slice sa' l.length sc')=w5 at *
  have hws3:w.heap.size+1 < g:=by omega
  go_loopw [16] (fun iv wr=>∃ (i:Nat) (us:List Ta),i≤l.length∧iv=.int .i64 (i:Int)∧us.length=i∧trs us=trs (l.take i)∧(∀ u∈us,RT wr (Fr w.heap.size [w.heap.size,w.heap.size+1,g] wr) u)∧CS w [.int .i64 k,.slice ra' r.length rc',.int .i64 ast,.slice sa' l.length sc',.int .i64 mn,.int .i64 mx,.bool z,.int .i64 ix,.string nm] wr∧RdA wr (Fr w.heap.size [w.heap.size,w.heap.size+1,g] wr) 2 ra' r.length rc' (flat r)∧(0 < l.length→Blk wr g 25 (rowT (us++l.drop i)++zs))) (fun iv _=>l.length - (intOf iv).toNat)
  case atStart=>exact ⟨0,[],zzZ _,rfl,rfl,rfl,by simp,HC5.out,HRA5.out,fun h0=>(HP5.out h0).2⟩
  case round =>
   obtain ⟨i,us,hi,rfl,hul,hut,hur,hcs,hrr,hgb⟩:=hrel
   have HUT:=zzA hut
   have HUR:=zzA hur
   have HCS:=zzA hcs
   have HRR:=zzA hrr
   clear hut hur hcs hrr
   by_cases hlt:i < l.length
   ·have hlt2:(i:Int) < (l.length:Int):=by omega
    have HG:=zzA (hgb (by omega))
    obtain ⟨rfl,-⟩:=HP5.out (by omega)
    obtain ⟨u,hu⟩:∃ u,l[i]?=some u:=⟨_,zzJ hlt⟩
    have hum:u∈l:=zzL hu
    have hgl:=HG.out.lt
    have hcell:∀ W,Blk W g 25 (rowT (us++l.drop i)++zs)→∀ q,q < 9→W.cell? ⟨g,i*9+q,none⟩=u.vals[q]?:=fun W hW q hq=>by
     have hrl:=rowT_length (us++l.drop i)
     have hil:i < (us++l.drop i).length:=(by rw [zzG,List.length_drop];omega)
     rw [hW.cell,List.getElem?_append_left (by rw [hrl];omega),rowT_get _ i q u (get_next hul hu) hq]
    obtain ⟨wa,hwa⟩:∃ wa,wa=wr.alloc (.cells u.vals.toArray 25):=⟨_,rfl⟩
    have hba:Below wr.heap.size wr wa:=hwa ▸ (zzb _ _).alloc (zzF _) _
    have HSB:=zzA (show Blk wa wr.heap.size 25 u.vals from hwa ▸ zyI wr 25 u.vals)
    have HCA:=zzA (HCS.out.bel hba)
    have HGA:=zzA (HG.out.below hba HG.out.lt)
    have HURA:=zzA (fun v hv=>(HUR.out v hv).fr_below hba)
    have HRRA:=zzA (HRR.out.fr_below hba)
    have hwra:wr.heap.size < wa.heap.size:=HSB.out.lt
    have hwwr:=HCS.out.below.size
    have hRK:=HIH.out u hum S wa.drew ((HL.out u hum).below HSS.out (bdrewN HCA.out.below 1)) (fun b hb=>zzQ (HSS.out b hb) HCA.out.below.size)
    have htk:trs (l.take (i+1))=trs (l.take i)++[u.tr]:=by rw [zyD,hu,trs_map,trs_map,zzT];rfl
    have HTK:=zzA htk
    clear hba htk hgb hum
    have HNX:=zzA (fun v:Ta=>set_next (u:=v) hul hlt)
    clear hu
    cases u with
    | mk k' r' ra'' rc'' a' l' sa'' sc'' n' m' z' i' s' =>
    simp only [Ta.vals] at hcell HSB hwa
    simp only [Ta.val,Ta.vals] at hRK
    have hk:∀ W,CS w [.int .i64 k,.slice ra' r.length rc',.int .i64 ast,.slice (some ⟨g,0,none⟩) l.length sc',.int .i64 mn,.int .i64 mx,.bool z,.int .i64 ix,.string nm] W→Blk W wr.heap.size 25 [.int .i64 k',.slice ra'' r'.length rc'',.int .i64 a',.slice sa'' l'.length sc'',.int .i64 n',.int .i64 m',.bool z',.int .i64 i',.string s']→(W.cell? ⟨w.heap.size,3,none⟩=some (.slice (some ⟨g,0,none⟩) l.length sc')∧W.cell? ⟨wr.heap.size,0,none⟩=some (.int .i64 k')∧W.cell? ⟨wr.heap.size,1,none⟩=some (.slice ra'' r'.length rc'')∧W.cell? ⟨wr.heap.size,2,none⟩=some (.int .i64 a')∧W.cell? ⟨wr.heap.size,3,none⟩=some (.slice sa'' l'.length sc'')∧W.cell? ⟨wr.heap.size,4,none⟩=some (.int .i64 n')∧W.cell? ⟨wr.heap.size,5,none⟩=some (.int .i64 m')∧W.cell? ⟨wr.heap.size,6,none⟩=some (.bool z')∧W.cell? ⟨wr.heap.size,7,none⟩=some (.int .i64 i')∧W.cell? ⟨wr.heap.size,8,none⟩=some (.string s')):=fun W h1 h2=>⟨h1.node.cell 3,h2.cell 0,h2.cell 1,h2.cell 2,h2.cell 3,h2.cell 4,h2.cell 5,h2.cell 6,h2.cell 7,h2.cell 8⟩
    have HK:=zzA hk
    have HC:=zzA hcell
    have HIN:=zzA hRK
    have c0:wr.cell? ⟨g,i*9,none⟩=some (.int .i64 k'):=HC.out wr HG.out 0 (by omega)
    have c1:wr.cell? ⟨g,i*9+1,none⟩=some (.slice ra'' r'.length rc''):=HC.out wr HG.out 1 (by omega)
    have c2:wr.cell? ⟨g,i*9+2,none⟩=some (.int .i64 a'):=HC.out wr HG.out 2 (by omega)
    have c3:wr.cell? ⟨g,i*9+3,none⟩=some (.slice sa'' l'.length sc''):=HC.out wr HG.out 3 (by omega)
    have c4:wr.cell? ⟨g,i*9+4,none⟩=some (.int .i64 n'):=HC.out wr HG.out 4 (by omega)
    have c5:wr.cell? ⟨g,i*9+5,none⟩=some (.int .i64 m'):=HC.out wr HG.out 5 (by omega)
    have c6:wr.cell? ⟨g,i*9+6,none⟩=some (.bool z'):=HC.out wr HG.out 6 (by omega)
    have c7:wr.cell? ⟨g,i*9+7,none⟩=some (.int .i64 i'):=HC.out wr HG.out 7 (by omega)
    have c8:wr.cell? ⟨g,i*9+8,none⟩=some (.string s'):=HC.out wr HG.out 8 (by omega)
    clear hk hcell hRK
    go_wp2_with fail
    rw [←hwa]
    clear hwa
    have kA:wa.drew.cell? ⟨w.heap.size,3,none⟩=some (.slice (some ⟨g,0,none⟩) l.length sc')∧wa.drew.cell? ⟨wr.heap.size,0,none⟩=some (.int .i64 k')∧wa.drew.cell? ⟨wr.heap.size,1,none⟩=some (.slice ra'' r'.length rc'')∧wa.drew.cell? ⟨wr.heap.size,2,none⟩=some (.int .i64 a')∧wa.drew.cell? ⟨wr.heap.size,3,none⟩=some (.slice sa'' l'.length sc'')∧wa.drew.cell? ⟨wr.heap.size,4,none⟩=some (.int .i64 n')∧wa.drew.cell? ⟨wr.heap.size,5,none⟩=some (.int .i64 m')∧wa.drew.cell? ⟨wr.heap.size,6,none⟩=some (.bool z')∧wa.drew.cell? ⟨wr.heap.size,7,none⟩=some (.int .i64 i')∧wa.drew.cell? ⟨wr.heap.size,8,none⟩=some (.string s'):=HK.out _ (HCA.out.bel (bdrewN (zzb _ _) 1)) HSB.out.drew
    go_region_held_law (fun w'=>w'.cell? ⟨w.heap.size,3,none⟩=some (.slice (some ⟨g,0,none⟩) l.length sc')∧w'.cell? ⟨wr.heap.size,0,none⟩=some (.int .i64 k')∧w'.cell? ⟨wr.heap.size,1,none⟩=some (.slice ra'' r'.length rc'')∧w'.cell? ⟨wr.heap.size,2,none⟩=some (.int .i64 a')∧w'.cell? ⟨wr.heap.size,3,none⟩=some (.slice sa'' l'.length sc'')∧w'.cell? ⟨wr.heap.size,4,none⟩=some (.int .i64 n')∧w'.cell? ⟨wr.heap.size,5,none⟩=some (.int .i64 m')∧w'.cell? ⟨wr.heap.size,6,none⟩=some (.bool z')∧w'.cell? ⟨wr.heap.size,7,none⟩=some (.int .i64 i')∧w'.cell? ⟨wr.heap.size,8,none⟩=some (.string s')) (first | with_reducible exact kA | with_reducible exact kB | with_reducible exact kC) (first | (go_at_call 76;refine HIN.out.mono ?_;rintro e w7 ⟨u7,rfl,htr,hrt,hb7⟩;have hc7:=HCA.out.bel ((bdrewN (zzb wa.heap.size wa) 1).trans hb7);have hg7:=HGA.out.drew.below hb7 HGA.out.lt;have hs7:=HSB.out.drew.below hb7 HSB.out.lt;obtain ⟨k2,r2,ra2,rc2,a2,l2,sa2,sc2,n2,m2,z2,i2,s2⟩:=u7;have d0:w7.cell? ⟨g,i*9,none⟩=some (.int .i64 k'):=HC.out w7 hg7 0 (by omega);have e0:=hg7.frozen (i*9);have d1:w7.cell? ⟨g,i*9+1,none⟩=some (.slice ra'' r'.length rc''):=HC.out w7 hg7 1 (by omega);have e1:=hg7.frozen (i*9+1);have d2:w7.cell? ⟨g,i*9+2,none⟩=some (.int .i64 a'):=HC.out w7 hg7 2 (by omega);have e2:=hg7.frozen (i*9+2);have d3:w7.cell? ⟨g,i*9+3,none⟩=some (.slice sa'' l'.length sc''):=HC.out w7 hg7 3 (by omega);have e3:=hg7.frozen (i*9+3);have d4:w7.cell? ⟨g,i*9+4,none⟩=some (.int .i64 n'):=HC.out w7 hg7 4 (by omega);have e4:=hg7.frozen (i*9+4);have d5:w7.cell? ⟨g,i*9+5,none⟩=some (.int .i64 m'):=HC.out w7 hg7 5 (by omega);have e5:=hg7.frozen (i*9+5);have d6:w7.cell? ⟨g,i*9+6,none⟩=some (.bool z'):=HC.out w7 hg7 6 (by omega);have e6:=hg7.frozen (i*9+6);have d7:w7.cell? ⟨g,i*9+7,none⟩=some (.int .i64 i'):=HC.out w7 hg7 7 (by omega);have e7:=hg7.frozen (i*9+7);have d8:w7.cell? ⟨g,i*9+8,none⟩=some (.string s'):=HC.out w7 hg7 8 (by omega);have e8:=hg7.frozen (i*9+8);have el:=hg7.lt;have hk7:=kept9 w7 g (i*9) (.int .i64 k2) (.slice ra2 r2.length rc2) (.int .i64 a2) (.slice sa2 l2.length sc2) (.int .i64 n2) (.int .i64 m2) (.bool z2) (.int .i64 i2) (.string s2);have hil:i < (us++l.drop i).length:=(by rw [zzG,List.length_drop];omega);have HG8:=zzA (hg7.set9 (u:=Ta.mk k2 r2 ra2 rc2 a2 l2 sa2 sc2 n2 m2 z2 i2 s2) hil rfl);clear hil;have HC8:=zzA (hc7.kept hk7 hws3);have HS8:=zzA (hs7.kept hk7 (by simp;omega));have HC7:=zzA hc7;have HS7:=zzA hs7;have HB7:=zzA hb7;have HRT:=zzA hrt;have HTR:=zzA htr;have HK7:=zzA hk7;clear hc7 hg7 hs7 hb7 hrt htr hk7;have kB:w7.cell? ⟨w.heap.size,3,none⟩=some (.slice (some ⟨g,0,none⟩) l.length sc')∧w7.cell? ⟨wr.heap.size,0,none⟩=some (.int .i64 k')∧w7.cell? ⟨wr.heap.size,1,none⟩=some (.slice ra'' r'.length rc'')∧w7.cell? ⟨wr.heap.size,2,none⟩=some (.int .i64 a')∧w7.cell? ⟨wr.heap.size,3,none⟩=some (.slice sa'' l'.length sc'')∧w7.cell? ⟨wr.heap.size,4,none⟩=some (.int .i64 n')∧w7.cell? ⟨wr.heap.size,5,none⟩=some (.int .i64 m')∧w7.cell? ⟨wr.heap.size,6,none⟩=some (.bool z')∧w7.cell? ⟨wr.heap.size,7,none⟩=some (.int .i64 i')∧w7.cell? ⟨wr.heap.size,8,none⟩=some (.string s'):=HK.out _ HC7.out HS7.out;have kC:(((((((((w7.setCell ⟨g,i*9,none⟩ (.int .i64 k2)).setCell ⟨g,i*9+1,none⟩ (.slice ra2 r2.length rc2)).setCell ⟨g,i*9+2,none⟩ (.int .i64 a2)).setCell ⟨g,i*9+3,none⟩ (.slice sa2 l2.length sc2)).setCell ⟨g,i*9+4,none⟩ (.int .i64 n2)).setCell ⟨g,i*9+5,none⟩ (.int .i64 m2)).setCell ⟨g,i*9+6,none⟩ (.bool z2)).setCell ⟨g,i*9+7,none⟩ (.int .i64 i2)).setCell ⟨g,i*9+8,none⟩ (.string s2)).cell? ⟨w.heap.size,3,none⟩=some (.slice (some ⟨g,0,none⟩) l.length sc')∧(((((((((w7.setCell ⟨g,i*9,none⟩ (.int .i64 k2)).setCell ⟨g,i*9+1,none⟩ (.slice ra2 r2.length rc2)).setCell ⟨g,i*9+2,none⟩ (.int .i64 a2)).setCell ⟨g,i*9+3,none⟩ (.slice sa2 l2.length sc2)).setCell ⟨g,i*9+4,none⟩ (.int .i64 n2)).setCell ⟨g,i*9+5,none⟩ (.int .i64 m2)).setCell ⟨g,i*9+6,none⟩ (.bool z2)).setCell ⟨g,i*9+7,none⟩ (.int .i64 i2)).setCell ⟨g,i*9+8,none⟩ (.string s2)).cell? ⟨wr.heap.size,0,none⟩=some (.int .i64 k')∧(((((((((w7.setCell ⟨g,i*9,none⟩ (.int .i64 k2)).setCell ⟨g,i*9+1,none⟩ (.slice ra2 r2.length rc2)).setCell ⟨g,i*9+2,none⟩ (.int .i64 a2)).setCell ⟨g,i*9+3,none⟩ (.slice sa2 l2.length sc2)).setCell ⟨g,i*9+4,none⟩ (.int .i64 n2)).setCell ⟨g,i*9+5,none⟩ (.int .i64 m2)).setCell ⟨g,i*9+6,none⟩ (.bool z2)).setCell ⟨g,i*9+7,none⟩ (.int .i64 i2)).setCell ⟨g,i*9+8,none⟩ (.string s2)).cell? ⟨wr.heap.size,1,none⟩=some (.slice ra'' r'.length rc'')∧(((((((((w7.setCell ⟨g,i*9,none⟩ (.int .i64 k2)).setCell ⟨g,i*9+1,none⟩ (.slice ra2 r2.length rc2)).setCell ⟨g,i*9+2,none⟩ (.int .i64 a2)).setCell ⟨g,i*9+3,none⟩ (.slice sa2 l2.length sc2)).setCell ⟨g,i*9+4,none⟩ (.int .i64 n2)).setCell ⟨g,i*9+5,none⟩ (.int .i64 m2)).setCell ⟨g,i*9+6,none⟩ (.bool z2)).setCell ⟨g,i*9+7,none⟩ (.int .i64 i2)).setCell ⟨g,i*9+8,none⟩ (.string s2)).cell? ⟨wr.heap.size,2,none⟩=some (.int .i64 a')∧(((((((((w7.setCell ⟨g,i*9,none⟩ (.int .i64 k2)).setCell ⟨g,i*9+1,none⟩ (.slice ra2 r2.length rc2)).setCell ⟨g,i*9+2,none⟩ (.int .i64 a2)).setCell ⟨g,i*9+3,none⟩ (.slice sa2 l2.length sc2)).setCell ⟨g,i*9+4,none⟩ (.int .i64 n2)).setCell ⟨g,i*9+5,none⟩ (.int .i64 m2)).setCell ⟨g,i*9+6,none⟩ (.bool z2)).setCell ⟨g,i*9+7,none⟩ (.int .i64 i2)).setCell ⟨g,i*9+8,none⟩ (.string s2)).cell? ⟨wr.heap.size,3,none⟩=some (.slice sa'' l'.length sc'')∧(((((((((w7.setCell ⟨g,i*9,none⟩ (.int .i64 k2)).setCell ⟨g,i*9+1,none⟩ (.slice ra2 r2.length rc2)).setCell ⟨g,i*9+2,none⟩ (.int .i64 a2)).setCell ⟨g,i*9+3,none⟩ (.slice sa2 l2.length sc2)).setCell ⟨g,i*9+4,none⟩ (.int .i64 n2)).setCell ⟨g,i*9+5,none⟩ (.int .i64 m2)).setCell ⟨g,i*9+6,none⟩ (.bool z2)).setCell ⟨g,i*9+7,none⟩ (.int .i64 i2)).setCell ⟨g,i*9+8,none⟩ (.string s2)).cell? ⟨wr.heap.size,4,none⟩=some (.int .i64 n')∧(((((((((w7.setCell ⟨g,i*9,none⟩ (.int .i64 k2)).setCell ⟨g,i*9+1,none⟩ (.slice ra2 r2.length rc2)).setCell ⟨g,i*9+2,none⟩ (.int .i64 a2)).setCell ⟨g,i*9+3,none⟩ (.slice sa2 l2.length sc2)).setCell ⟨g,i*9+4,none⟩ (.int .i64 n2)).setCell ⟨g,i*9+5,none⟩ (.int .i64 m2)).setCell ⟨g,i*9+6,none⟩ (.bool z2)).setCell ⟨g,i*9+7,none⟩ (.int .i64 i2)).setCell ⟨g,i*9+8,none⟩ (.string s2)).cell? ⟨wr.heap.size,5,none⟩=some (.int .i64 m')∧(((((((((w7.setCell ⟨g,i*9,none⟩ (.int .i64 k2)).setCell ⟨g,i*9+1,none⟩ (.slice ra2 r2.length rc2)).setCell ⟨g,i*9+2,none⟩ (.int .i64 a2)).setCell ⟨g,i*9+3,none⟩ (.slice sa2 l2.length sc2)).setCell ⟨g,i*9+4,none⟩ (.int .i64 n2)).setCell ⟨g,i*9+5,none⟩ (.int .i64 m2)).setCell ⟨g,i*9+6,none⟩ (.bool z2)).setCell ⟨g,i*9+7,none⟩ (.int .i64 i2)).setCell ⟨g,i*9+8,none⟩ (.string s2)).cell? ⟨wr.heap.size,6,none⟩=some (.bool z')∧(((((((((w7.setCell ⟨g,i*9,none⟩ (.int .i64 k2)).setCell ⟨g,i*9+1,none⟩ (.slice ra2 r2.length rc2)).setCell ⟨g,i*9+2,none⟩ (.int .i64 a2)).setCell ⟨g,i*9+3,none⟩ (.slice sa2 l2.length sc2)).setCell ⟨g,i*9+4,none⟩ (.int .i64 n2)).setCell ⟨g,i*9+5,none⟩ (.int .i64 m2)).setCell ⟨g,i*9+6,none⟩ (.bool z2)).setCell ⟨g,i*9+7,none⟩ (.int .i64 i2)).setCell ⟨g,i*9+8,none⟩ (.string s2)).cell? ⟨wr.heap.size,7,none⟩=some (.int .i64 i')∧(((((((((w7.setCell ⟨g,i*9,none⟩ (.int .i64 k2)).setCell ⟨g,i*9+1,none⟩ (.slice ra2 r2.length rc2)).setCell ⟨g,i*9+2,none⟩ (.int .i64 a2)).setCell ⟨g,i*9+3,none⟩ (.slice sa2 l2.length sc2)).setCell ⟨g,i*9+4,none⟩ (.int .i64 n2)).setCell ⟨g,i*9+5,none⟩ (.int .i64 m2)).setCell ⟨g,i*9+6,none⟩ (.bool z2)).setCell ⟨g,i*9+7,none⟩ (.int .i64 i2)).setCell ⟨g,i*9+8,none⟩ (.string s2)).cell? ⟨wr.heap.size,8,none⟩=some (.string s'):=HK.out _ HC8.out HS8.out;simp only [Ta.val,Ta.vals]))
    go_wp2_with fail
    go_roundw
    case rel =>
     have hU:=(HRT.out.fr_in (B:=w.heap.size) (L:=[w.heap.size,w.heap.size+1,g]) (show w.heap.size≤wa.heap.size by omega) (by intro b hb;simp at hb;show b < wa.heap.size;omega)).fr_kept (L':=[w.heap.size,w.heap.size+1,g]) HK7.out (by simp) (by simp)
     refine ⟨i+1,us++[Ta.mk k2 r2 ra2 rc2 a2 l2 sa2 sc2 n2 m2 z2 i2 s2],by omega,by go_num,by rw [zzG,hul];rfl,?_,?_,HC8.out,?_,fun _=>HNX.out _ ▸ HG8.out⟩
     ·rw [HTK.out,←HTR.out,trs_map,zzT,←trs_map,HUT.out];rfl
     ·intro v hv
      rcases zzM.1 hv with hv | hv
      ·exact ((HURA.out v hv).fr_below ((bdrewN (zzb wa.heap.size wa) 1).trans HB7.out)).fr_kept HK7.out (by simp) (by simp)
      ·simp at hv
       subst hv
       exact hU
     ·exact (HRRA.out.fr_below ((bdrewN (zzb wa.heap.size wa) 1).trans HB7.out)).fr_kept HK7.out (by simp) (by simp)
    case measure=>simp [intOf];omega
   ·obtain rfl:i=l.length:=by omega
    have hlt2:¬((l.length:Int) < (l.length:Int)):=by omega
    have tt:∀ q,wr.cell? ⟨w.heap.size,q,none⟩=([.int .i64 k,.slice ra' r.length rc',.int .i64 ast,.slice sa' l.length sc',.int .i64 mn,.int .i64 mx,.bool z,.int .i64 ix,.string nm]:List Value)[q]?:=fun q=>HCS.out.node.cell q
    have t0:wr.cell? ⟨w.heap.size,0,none⟩=some (.int .i64 k):=tt 0
    have t1':wr.cell? ⟨w.heap.size,1,none⟩=some (.slice ra' r.length rc'):=tt 1
    have t2:wr.cell? ⟨w.heap.size,2,none⟩=some (.int .i64 ast):=tt 2
    have t3':wr.cell? ⟨w.heap.size,3,none⟩=some (.slice sa' l.length sc'):=tt 3
    have t4:wr.cell? ⟨w.heap.size,4,none⟩=some (.int .i64 mn):=tt 4
    have t5':wr.cell? ⟨w.heap.size,5,none⟩=some (.int .i64 mx):=tt 5
    have t6:wr.cell? ⟨w.heap.size,6,none⟩=some (.bool z):=tt 6
    have t7:wr.cell? ⟨w.heap.size,7,none⟩=some (.int .i64 ix):=tt 7
    have t8:wr.cell? ⟨w.heap.size,8,none⟩=some (.string nm):=tt 8
    have qq:∀ q,wr.cell? ⟨w.heap.size+1,q,none⟩=([.int .i64 0,.slice none 0 0,.int .i64 0,.slice none 0 0,.int .i64 0,.int .i64 0,.bool false,.int .i64 0,.string ⟨#[]⟩]:List Value)[q]?:=fun q=>HCS.out.res.cell q
    have q0:wr.cell? ⟨w.heap.size+1,0,none⟩=some (.int .i64 0):=qq 0
    have s0:=HCS.out.res.frozen 0
    have q1:wr.cell? ⟨w.heap.size+1,1,none⟩=some (.slice none 0 0):=qq 1
    have s1:=HCS.out.res.frozen 1
    have q2:wr.cell? ⟨w.heap.size+1,2,none⟩=some (.int .i64 0):=qq 2
    have s2:=HCS.out.res.frozen 2
    have q3:wr.cell? ⟨w.heap.size+1,3,none⟩=some (.slice none 0 0):=qq 3
    have s3:=HCS.out.res.frozen 3
    have q4:wr.cell? ⟨w.heap.size+1,4,none⟩=some (.int .i64 0):=qq 4
    have s4:=HCS.out.res.frozen 4
    have q5:wr.cell? ⟨w.heap.size+1,5,none⟩=some (.int .i64 0):=qq 5
    have s5:=HCS.out.res.frozen 5
    have q6:wr.cell? ⟨w.heap.size+1,6,none⟩=some (.bool false):=qq 6
    have s6:=HCS.out.res.frozen 6
    have q7:wr.cell? ⟨w.heap.size+1,7,none⟩=some (.int .i64 0):=qq 7
    have s7:=HCS.out.res.frozen 7
    have q8:wr.cell? ⟨w.heap.size+1,8,none⟩=some (.string ⟨#[]⟩):=qq 8
    have s8:=HCS.out.res.frozen 8
    have s9:=HCS.out.res.lt
    have HUL:=zzA hul
    have HGB:=zzA hgb
    clear tt qq hul hgb
    go_wp2_with fail
    have hK:Kept wr (((((((((wr.setCell ⟨w.heap.size+1,0,none⟩ (.int .i64 k)).setCell ⟨w.heap.size+1,1,none⟩ (.slice ra' r.length rc')).setCell ⟨w.heap.size+1,2,none⟩ (.int .i64 ast)).setCell ⟨w.heap.size+1,3,none⟩ (.slice sa' l.length sc')).setCell ⟨w.heap.size+1,4,none⟩ (.int .i64 mn)).setCell ⟨w.heap.size+1,5,none⟩ (.int .i64 mx)).setCell ⟨w.heap.size+1,6,none⟩ (.bool z)).setCell ⟨w.heap.size+1,7,none⟩ (.int .i64 ix)).setCell ⟨w.heap.size+1,8,none⟩ (.string nm)) [w.heap.size+1]:=kept9 wr (w.heap.size+1) 0 (.int .i64 k) (.slice ra' r.length rc') (.int .i64 ast) (.slice sa' l.length sc') (.int .i64 mn) (.int .i64 mx) (.bool z) (.int .i64 ix) (.string nm)
    have hres:Blk (((((((((wr.setCell ⟨w.heap.size+1,0,none⟩ (.int .i64 k)).setCell ⟨w.heap.size+1,1,none⟩ (.slice ra' r.length rc')).setCell ⟨w.heap.size+1,2,none⟩ (.int .i64 ast)).setCell ⟨w.heap.size+1,3,none⟩ (.slice sa' l.length sc')).setCell ⟨w.heap.size+1,4,none⟩ (.int .i64 mn)).setCell ⟨w.heap.size+1,5,none⟩ (.int .i64 mx)).setCell ⟨w.heap.size+1,6,none⟩ (.bool z)).setCell ⟨w.heap.size+1,7,none⟩ (.int .i64 ix)).setCell ⟨w.heap.size+1,8,none⟩ (.string nm)) (w.heap.size+1) 25 (Ta.mk k r ra' rc' ast us sa' sc' mn mx z ix nm).vals:=by
     have:(Ta.mk k r ra' rc' ast us sa' sc' mn mx z ix nm).vals=[.int .i64 k,.slice ra' r.length rc',.int .i64 ast,.slice sa' l.length sc',.int .i64 mn,.int .i64 mx,.bool z,.int .i64 ix,.string nm]:=by rw [Ta.vals,HUL.out]
     rw [this]
     exact (((((((((HCS.out.res.set_ 0 (.int .i64 k)).set_ 1 (.slice ra' r.length rc')).set_ 2 (.int .i64 ast)).set_ 3 (.slice sa' l.length sc')).set_ 4 (.int .i64 mn)).set_ 5 (.int .i64 mx)).set_ 6 (.bool z)).set_ 7 (.int .i64 ix)).set_ 8 (.string nm))
    generalize (((((((((wr.setCell ⟨w.heap.size+1,0,none⟩ (.int .i64 k)).setCell ⟨w.heap.size+1,1,none⟩ (.slice ra' r.length rc')).setCell ⟨w.heap.size+1,2,none⟩ (.int .i64 ast)).setCell ⟨w.heap.size+1,3,none⟩ (.slice sa' l.length sc')).setCell ⟨w.heap.size+1,4,none⟩ (.int .i64 mn)).setCell ⟨w.heap.size+1,5,none⟩ (.int .i64 mx)).setCell ⟨w.heap.size+1,6,none⟩ (.bool z)).setCell ⟨w.heap.size+1,7,none⟩ (.int .i64 ix)).setCell ⟨w.heap.size+1,8,none⟩ (.string nm))=wf at *
    have hwf:=hK.size
    have hwr:=HCS.out.below.size
    refine zzm (node_ret rfl _ _ (w.heap.size+1) (Ta.mk k r ra' rc' ast us sa' sc' mn mx z ix nm) rfl hres) rfl ?_
    refine ⟨Ta.mk k r ra' rc' ast us sa' sc' mn mx z ix nm,rfl,?_,?_,zyH HCS.out.below hK (by intro b hb;simp at hb;omega) HCS.out.below.size⟩
    ·rw [Ta.tr,Ta.tr,HUT.out,List.take_length]
    ·refine RT.of ⟨?_,hrl,by rw [HUL.out];exact hll,hnm⟩ ?_ fun v hv=>((HUR.out v hv).fr_kept hK (by simp) (by simp))
     ·exact HRR.out.fr_kept hK (by simp) (by simp)
     ·rw [HUL.out]
      refine ⟨hn4,hc4,by rw [rowT_length,HUL.out],hA4,fun h0=>?_⟩
      obtain ⟨e1,-⟩:=HP5.out h0
      have hb:=(HGB.out h0).kept hK (by simp;omega)
      rw [List.drop_length,zzY] at hb
      exact ⟨g,0,e1,⟨by omega,hb.lt,by simp⟩,fun j v hv=>by rw [zzw,hb.cell,List.getElem?_append_left (zzK.1 hv).1];exact hv⟩
structure RowV (B Bo:Nat) (X:List Nat) (rb:Nat) (ty:TypeId) (f:Value→List Value) (v:Value) (us:List Ta) (w:World):Prop where
 blk:Blk w rb ty (f v)
 own:w.ownsRow Bo 25 9 v us.length (rowT us)
 els:∀ u∈us,RT w (Fr B (X++rb :: v.ownBlock.toList) w) u
 sep:v.ownBlock≠some rb
def f1:Value→List Value:=fun v=>[v]
def putA:Ta→List Ta
 | .mk k r ra rc a l sa sc n m z i s=>if k=1 then [] else if k=4 then l else [.mk k r ra rc a l sa sc n m z i s]
theorem putA_tr (t:Ta):trs (putA t)=putT t.tr:=by
 cases t with
 | mk k r ra rc ast l sa sc mn mx z ix nm =>
  rw [putA,Ta.tr]
  by_cases h1:k=1
  ·rw [if_pos h1];exact (if_pos (show (Tr.mk k r ast (trs l) mn mx z ix nm).kind=1 from h1)).symm
  ·by_cases h4:k=4
   ·rw [if_neg h1,if_pos h4];exact ((if_neg (show ¬(Tr.mk k r ast (trs l) mn mx z ix nm).kind=1 from h1)).trans (if_pos (show (Tr.mk k r ast (trs l) mn mx z ix nm).kind=4 from h4))).symm
   ·rw [if_neg h1,if_neg h4];exact ((if_neg (show ¬(Tr.mk k r ast (trs l) mn mx z ix nm).kind=1 from h1)).trans (if_neg (show ¬(Tr.mk k r ast (trs l) mn mx z ix nm).kind=4 from h4))).symm
theorem new_atT (w:World) (t:TypeId) (cs:List Value):∀ j u,cs[j]?=some u→(w.alloc (.cells cs.toArray t)).cell? ((⟨w.heap.size,0,none⟩:Addr).add j)=some u:=by
 intro j u hj
 rw [add_lit,zzw]
 exact ((zyI w t cs).cell j).trans hj
def zT:Ta:=.mk 0 [] none 0 0 [] none 0 0 0 false 0 ⟨#[]⟩
theorem zT_one:∀ u∈([.int .i64 0,.slice none 0 0,.int .i64 0,.slice none 0 0,.int .i64 0,.int .i64 0,.bool false,.int .i64 0,.string ⟨#[]⟩]:List Value),u.oneCell'=true:=zT.one
theorem zT_at (us:List Ta) (q:Nat) (hq:q < 9):(rowT (us++[zT]))[us.length*9+q]?=zT.vals[q]?:=rowT_get _ _ _ _ (by rw [zzz (zzF _),Nat.sub_self];rfl) hq
theorem own_zero {w:World} {base:Nat} {v:Value} {n:Nat} {us:List Ta} (h:w.ownsRow base 25 9 v n (rowT us++[.int .i64 0,.slice none 0 0,.int .i64 0,.slice none 0 0,.int .i64 0,.int .i64 0,.bool false,.int .i64 0,.string ⟨#[]⟩])):w.ownsRow base 25 9 v n (rowT (us++[zT])):=by
 rw [rowT_append];exact h
theorem own_cell {w:World} {base:Nat} {e:TypeId} {size n g c:Nat} {xs:List Value} {j:Nat} {u:Value} (h:w.ownsRow base e size (.slice (some ⟨g,0,none⟩) n c) n xs) (hu:xs[j]?=some u):w.cell? ⟨g,j,none⟩=some u:=by
 rcases h.2 with ⟨h0,_⟩ | ⟨g',cap,cur,hv,hb,hh,hnc,hcm,hcs,ht⟩
 ·cases h0
 ·simp only [Value.slice.injEq,zzd,Addr.mk.injEq,and_true] at hv
  obtain ⟨rfl,_⟩:=hv
  rw [cell_of_row w g j cur e (0,0) hh]
  rw [←ht,List.getElem?_take] at hu
  split at hu
  ·simpa using hu
  ·cases hu
theorem own_frozen {w:World} {base:Nat} {e:TypeId} {size n g c:Nat} {xs:List Value} (h:w.ownsRow base e size (.slice (some ⟨g,0,none⟩) n c) n xs) (j:Nat):w.frozen? ⟨g,j,none⟩=false:=by
 rcases h.2 with ⟨h0,_⟩ | ⟨g',cap,cur,hv,hb,hh,hnc,hcm,hcs,ht⟩
 ·cases h0
 ·simp only [Value.slice.injEq,zzd,Addr.mk.injEq,and_true] at hv
  obtain ⟨rfl,_⟩:=hv
  simp [World.frozen?,hh]
theorem at_old {A:Option Addr} {n c g a b:Nat} (h:a≤b) (ha:(Value.slice A n c).ownBlock=some g∨g=b):(Value.slice A n c).ownBlock=some g∨a≤g:=ha.imp id fun e=>by omega
theorem own_set9 {w:World} {base g c n:Nat} {us:List Ta} {i:Nat} (h:w.ownsRow base 25 9 (.slice (some ⟨g,0,none⟩) n c) n (rowT us)) (hi:i < us.length) {k r a s nn m z x nm:Value} {u:Ta} (hu:u.vals=[k,r,a,s,nn,m,z,x,nm]) :
  (((((((((w.setCell ⟨g,i*9,none⟩ k).setCell ⟨g,i*9+1,none⟩ r).setCell ⟨g,i*9+2,none⟩ a).setCell ⟨g,i*9+3,none⟩ s).setCell ⟨g,i*9+4,none⟩ nn).setCell ⟨g,i*9+5,none⟩ m).setCell ⟨g,i*9+6,none⟩ z).setCell ⟨g,i*9+7,none⟩ x).setCell ⟨g,i*9+8,none⟩ nm).ownsRow base 25 9 (.slice (some ⟨g,0,none⟩) n c) n (rowT (us.set i u)):=by
 rcases h.2 with ⟨h0,_⟩ | ⟨g',cap,cur,hv,hb,hh,hnc,hcm,hcs,ht⟩
 ·cases h0
 ·simp only [Value.slice.injEq,zzd,Addr.mk.injEq,and_true] at hv
  obtain ⟨rfl,_,rfl⟩:=hv
  have hb0:Blk w g 25 (rowT us++cur.toList.drop (n*9)):=by
   unfold Blk
   rw [←ht,List.take_append_drop,Array.toArray_toList]
   exact hh
  have hb1:=hb0.set9 hi hu
  have hl0:=h.1
  rw [rowT_length] at hl0
  have hlen:(rowT (us.set i u)++cur.toList.drop (n*9)).length=c*9:=by
   have hcl:cur.toList.length=c*9:=(Array.length_toList (xs:=cur)).trans hcs
   rw [zzG,rowT_length,zzu,List.length_drop,hcl]
   have:n*9≤c*9:=Nat.mul_le_mul_right _ hnc
   omega
  have:=hb1.own (base:=base) (size:=9) hb hnc (by unfold maxLen at hcm;omega) hlen
  rwa [List.take_append_of_le_length (by rw [rowT_length,zzu];omega),List.take_of_length_le (by rw [rowT_length,zzu];omega)] at this
theorem put_fin {B Bo rb g cap c:Nat} {X:List Nat} {A:Option Addr} {us:List Ta} {t:Ta} {w w2 wf:World} {ty:TypeId} {f:Value→List Value} (hr:RowV B Bo X rb ty f (.slice A us.length c) us w) (ht:RT w (Fr B (X++rb :: (Value.slice A us.length c).ownBlock.toList) w) t)
  (hk0:Kept w w2 (Value.slice A us.length c).ownBlock.toList) (hk1:Kept w2 wf [rb,g]) (hgo:(Value.slice A us.length c).ownBlock=some g∨w.heap.size≤g) (hgr:g≠rb)
  (hb:Blk wf rb ty (f (.slice (some ⟨g,0,none⟩) (us.length+1) cap))) (ho:wf.ownsRow Bo 25 9 (.slice (some ⟨g,0,none⟩) (us.length+1) cap) (us.length+1) (rowT (us++[t]))) :
  ∃ v',RowV B Bo X rb ty f v' (us++[t]) wf∧Kept w wf (rb :: (Value.slice A us.length c).ownBlock.toList)∧(v'.ownBlock=(Value.slice A us.length c).ownBlock∨∃ g,v'.ownBlock=some g∧w.heap.size≤g):=by
 have hk:Kept w wf (rb :: (Value.slice A us.length c).ownBlock.toList):=(hk0.trans hk1).more (by
  intro x hx
  rcases zzM.1 hx with h | h
  ·exact .inl (zzI _ h)
  ·simp only [zzN,zyA,or_false] at h
   rcases h with rfl | rfl
   ·exact .inl (by simp)
   ·rcases hgo with h | h
    ·exact .inl (by rw [h];simp)
    ·exact .inr h)
 have hL':∀ x∈X++rb :: ((Value.slice (some ⟨g,0,none⟩) (us.length+1) cap).ownBlock).toList,x∈X++rb :: (Value.slice A us.length c).ownBlock.toList∨w.heap.size≤x∨x < B:=fun x hx=>by
  simp only [Value.ownBlock,Option.toList_some,zzM,zzN,zyA,or_false] at hx
  rcases hx with hx | rfl | rfl
  ·exact .inl (zzW _ hx)
  ·exact .inl (by simp)
  ·rcases hgo with h | h
   ·exact .inl (by rw [h];simp)
   ·exact .inr (.inl h)
 refine ⟨_,⟨hb,by rw [zzG];exact ho,fun u hu=>?_,fun h=>hgr (by simpa [Value.ownBlock] using h)⟩,hk,?_⟩
 ·rcases zzM.1 hu with hu | hu
  ·exact (hr.els u hu).fr_kept hk (fun x hx=>.inl (zzV _ hx)) hL'
  ·simp only [zzE] at hu
   subst hu
   exact ht.fr_kept hk (fun x hx=>.inl (zzV _ hx)) hL'
 ·rcases hgo with h | h
  ·exact .inl h.symm
  ·exact .inr ⟨g,rfl,h⟩
theorem put_finA {B Bo rb g cap c:Nat} {X:List Nat} {A:Option Addr} {us:List Ta} {t:Ta} {w w2:World} (hr:RowV B Bo X rb 139 f1 (.slice A us.length c) us w) (ht:RT w (Fr B (X++rb :: (Value.slice A us.length c).ownBlock.toList) w) t)
  (hk0:Kept w w2 (Value.slice A us.length c).ownBlock.toList) (hgo:(Value.slice A us.length c).ownBlock=some g∨w.heap.size≤g) (hgr:g≠rb) {v0:Value}
  (hb:Blk w2 rb 139 (f1 v0)) (ho:w2.ownsRow Bo 25 9 (.slice (some ⟨g,0,none⟩) (us.length+1) cap) (us.length+1) (rowT (us++[zT]))) {k r a s nn m z x nm:Value} (hu:t.vals=[k,r,a,s,nn,m,z,x,nm]) :
  ∃ v',RowV B Bo X rb 139 f1 v' (us++[t]) ((((((((((w2.setCell ⟨g,us.length*9,none⟩ k).setCell ⟨g,us.length*9+1,none⟩ r).setCell ⟨g,us.length*9+2,none⟩ a).setCell ⟨g,us.length*9+3,none⟩ s).setCell ⟨g,us.length*9+4,none⟩ nn).setCell ⟨g,us.length*9+5,none⟩ m).setCell ⟨g,us.length*9+6,none⟩ z).setCell ⟨g,us.length*9+7,none⟩ x).setCell ⟨g,us.length*9+8,none⟩ nm).setCell ⟨rb,0,none⟩ (.slice (some ⟨g,0,none⟩) (us.length+1) cap))∧Kept w ((((((((((w2.setCell ⟨g,us.length*9,none⟩ k).setCell ⟨g,us.length*9+1,none⟩ r).setCell ⟨g,us.length*9+2,none⟩ a).setCell ⟨g,us.length*9+3,none⟩ s).setCell ⟨g,us.length*9+4,none⟩ nn).setCell ⟨g,us.length*9+5,none⟩ m).setCell ⟨g,us.length*9+6,none⟩ z).setCell ⟨g,us.length*9+7,none⟩ x).setCell ⟨g,us.length*9+8,none⟩ nm).setCell ⟨rb,0,none⟩ (.slice (some ⟨g,0,none⟩) (us.length+1) cap)) (rb :: (Value.slice A us.length c).ownBlock.toList)∧(v'.ownBlock=(Value.slice A us.length c).ownBlock∨∃ g,v'.ownBlock=some g∧w.heap.size≤g):=by
 have hil:us.length < (us++[zT]).length:=by rw [zzG];simp
 have hse:(us++[zT]).set us.length t=us++[t]:=by rw [List.set_append_right _ _ (zzF _),Nat.sub_self];rfl
 refine put_fin (cap:=cap) hr ht hk0 (((kept9 w2 g (us.length*9) k r a s nn m z x nm).trans (zyG ⟨rb,0,none⟩ _)).more (by intro k hk;simp at hk ⊢;exact .inl hk.symm)) hgo hgr ?_ ?_
 ·exact (hb.kept (kept9 w2 g (us.length*9) k r a s nn m z x nm) (by simpa using hgr.symm)).set_ 0 (.slice (some ⟨g,0,none⟩) (us.length+1) cap)
 ·rw [←hse]
  exact own_kept (own_set9 ho hil hu) (zyG ⟨rb,0,none⟩ (.slice (some ⟨g,0,none⟩) (us.length+1) cap)) (fun x hx hm=>by simp [Value.ownBlock] at hx hm;exact hgr (by rw [hx,hm]))
theorem put_finB {B Bo rb g cap c:Nat} {X:List Nat} {A:Option Addr} {us:List Ta} {t:Ta} {w w2:World} (hr:RowV B Bo X rb 139 f1 (.slice A us.length c) us w) (ht:RT w (Fr B (X++rb :: (Value.slice A us.length c).ownBlock.toList) w) t)
  (hk0:Kept w w2 (Value.slice A us.length c).ownBlock.toList) (hgo:(Value.slice A us.length c).ownBlock=some g∨w.heap.size≤g) (hgr:g≠rb) {v0:Value}
  (hb:Blk w2 rb 139 (f1 v0)) (ho:w2.ownsRow Bo 25 9 (.slice (some ⟨g,0,none⟩) (us.length+1) cap) (us.length+1) (rowT (us++[zT]))) {k r a s nn m z x nm:Value} (hu:t.vals=[k,r,a,s,nn,m,z,x,nm]) :
  ∃ v',RowV B Bo X rb 139 f1 v' (us++[t]) ((((((((((w2.setCell ⟨rb,0,none⟩ (.slice (some ⟨g,0,none⟩) (us.length+1) cap)).setCell ⟨g,us.length*9,none⟩ k).setCell ⟨g,us.length*9+1,none⟩ r).setCell ⟨g,us.length*9+2,none⟩ a).setCell ⟨g,us.length*9+3,none⟩ s).setCell ⟨g,us.length*9+4,none⟩ nn).setCell ⟨g,us.length*9+5,none⟩ m).setCell ⟨g,us.length*9+6,none⟩ z).setCell ⟨g,us.length*9+7,none⟩ x).setCell ⟨g,us.length*9+8,none⟩ nm)∧Kept w ((((((((((w2.setCell ⟨rb,0,none⟩ (.slice (some ⟨g,0,none⟩) (us.length+1) cap)).setCell ⟨g,us.length*9,none⟩ k).setCell ⟨g,us.length*9+1,none⟩ r).setCell ⟨g,us.length*9+2,none⟩ a).setCell ⟨g,us.length*9+3,none⟩ s).setCell ⟨g,us.length*9+4,none⟩ nn).setCell ⟨g,us.length*9+5,none⟩ m).setCell ⟨g,us.length*9+6,none⟩ z).setCell ⟨g,us.length*9+7,none⟩ x).setCell ⟨g,us.length*9+8,none⟩ nm) (rb :: (Value.slice A us.length c).ownBlock.toList)∧(v'.ownBlock=(Value.slice A us.length c).ownBlock∨∃ g,v'.ownBlock=some g∧w.heap.size≤g):=by
 have hil:us.length < (us++[zT]).length:=by rw [zzG];simp
 have hse:(us++[zT]).set us.length t=us++[t]:=by rw [List.set_append_right _ _ (zzF _),Nat.sub_self];rfl
 refine put_fin (cap:=cap) hr ht hk0 (((zyG ⟨rb,0,none⟩ _).trans (kept9 _ g (us.length*9) k r a s nn m z x nm)).more (by intro k hk;simp at hk ⊢;exact .inl hk)) hgo hgr ?_ ?_
 ·exact (hb.set_ 0 (.slice (some ⟨g,0,none⟩) (us.length+1) cap)).kept (kept9 _ g (us.length*9) k r a s nn m z x nm) (by simpa using hgr.symm)
 ·rw [←hse]
  exact own_set9 (own_kept ho (zyG (w:=w2) ⟨rb,0,none⟩ (.slice (some ⟨g,0,none⟩) (us.length+1) cap)) (fun x hx hm=>by simp [Value.ownBlock] at hx hm;exact hgr (by rw [hx,hm]))) hil hu
theorem put_any (B Bo:Nat) (X:List Nat) (rb:Nat) (v:Value) (us:List Ta) (t:Ta) (w:World) (hr:RowV B Bo X rb 139 f1 v us w) (ht:RT w (Fr B (X++rb :: v.ownBlock.toList) w) t) (hB:Bo≤w.heap.size) (hn:us.length≤1048576) (h4:t.tr.kind=4→0 < t.subs.length) :
  Calls Tryz.prog 72 #[.pointer (some ⟨rb,0,none⟩),t.val] w fun e w'=>e=.returned (.tuple #[])∧∃ v',RowV B Bo X rb 139 f1 v' (us++putA t) w'∧Kept w w' (rb :: v.ownBlock.toList)∧(v'.ownBlock=v.ownBlock∨∃ g,v'.ownBlock=some g∧w.heap.size≤g):=by
 obtain ⟨i0,hi,hz0,hz1,hz2⟩:=info_parts info_clone_nodes
 obtain ⟨A,c,rfl⟩:=own_shape hr.own
 cases t with
 | mk k r ra rc ast l sa sc mn mx z ix nm =>
 obtain ⟨⟨hR,hrl,hll,hnm⟩,hN,hL⟩:=ht.parts
 have hrb:=hr.blk.lt
 have hba:Below w.heap.size w (w.alloc (.cells #[.int .i64 k,.slice ra r.length rc,.int .i64 ast,.slice sa l.length sc,.int .i64 mn,.int .i64 mx,.bool z,.int .i64 ix,.string nm] 25)):=(zzb _ _).alloc (zzF _) _
 have hways:(k==1)=true∨((k==1)=false∧(k==4)=true)∨((k==1)=false∧(k==4)=false):=by
  cases (k==1) <;> cases (k==4) <;> simp
 rcases hways with h1 | ⟨h1,h2⟩ | ⟨h1,h2⟩
 ·have hk1:k=1:=by simpa using h1
  have hp:putA (Ta.mk k r ra rc ast l sa sc mn mx z ix nm)=[]:=by rw [putA,if_pos hk1]
  rw [hp,zzY]
  have HR:=zzA hr
  have HBA:=zzA hba
  clear hr ht hR hN hL hba hk1 hp
  simp only [Ta.val,Ta.vals]
  go_enter Tryz.func72,Tryz.ntmps72
  go_wp2_with fail
  go_end0
  exact ⟨rfl,_,⟨HR.out.blk.below HBA.out HR.out.blk.lt,own_below HR.out.own HBA.out,fun u hu=>(HR.out.els u hu).fr_below HBA.out,HR.out.sep⟩,Kept.of_below HBA.out,.inl rfl⟩
 ·have hk1:¬k=1:=by simpa using h1
  have hk4:k=4:=by simpa using h2
  have hp:putA (Ta.mk k r ra rc ast l sa sc mn mx z ix nm)=l:=by rw [putA,if_neg hk1,if_pos hk4]
  rw [hp]
  have hlp:0 < l.length:=h4 hk4
  clear hk1 hk4 hp
  have hb1:=hr.blk.alloc (.cells #[.int .i64 k,.slice ra r.length rc,.int .i64 ast,.slice sa l.length sc,.int .i64 mn,.int .i64 mx,.bool z,.int .i64 ix,.string nm] 25)
  have ho1:=own_below hr.own hba
  have ht1:=zyI w 25 [.int .i64 k,.slice ra r.length rc,.int .i64 ast,.slice sa l.length sc,.int .i64 mn,.int .i64 mx,.bool z,.int .i64 ix,.string nm]
  obtain ⟨b,off,rfl,hSb,hcb⟩:=hN.2.2.2.2 hlp
  have hnews:∀ j u,(rowT l)[j]?=some u→(w.alloc (.cells #[.int .i64 k,.slice ra r.length rc,.int .i64 ast,.slice (some ⟨b,off,none⟩) l.length sc,.int .i64 mn,.int .i64 mx,.bool z,.int .i64 ix,.string nm] 25)).drew.cell? ((⟨b,off,none⟩:Addr).add j)=some u:=fun j u hu=>by
   rw [add_lit]
   exact (hba.cell (p:=⟨b,off+j,none⟩) hSb.2.1).trans (hcb j u hu)
  have hbs:Bo≤(w.alloc (.cells #[.int .i64 k,.slice ra r.length rc,.int .i64 ast,.slice (some ⟨b,off,none⟩) l.length sc,.int .i64 mn,.int .i64 mx,.bool z,.int .i64 ix,.string nm] 25)).drew.heap.size:=zzU hB hba.size
  have hsz1:=hba.size
  simp only [Ta.val,Ta.vals]
  go_enter Tryz.func72,Tryz.ntmps72
  go_wp2_with fail
  generalize (w.alloc (.cells #[.int .i64 k,.slice ra r.length rc,.int .i64 ast,.slice (some ⟨b,off,none⟩) l.length sc,.int .i64 mn,.int .i64 mx,.bool z,.int .i64 ix,.string nm] 25))=w1 at *
  have e0:w1.drew.cell? ⟨rb,0,none⟩=some (.slice A us.length c):=hb1.cell 0
  have e3:w1.drew.cell? ⟨w.heap.size,3,none⟩=some (.slice (some ⟨b,off,none⟩) l.length sc):=ht1.cell 3
  have HR:=zzA hr
  have HLL:=zzA hL
  have HBA:=zzA hba
  have HB1:=zzA hb1
  clear hr hL hba hR hN ht hcb
  go_region_law (first
   | (refine step_append_lies _ rfl (.tmp 25) (.tmp 27) 23 rfl Bo 25 i0 (.agg #[.int .i64 0,.slice none 0 0,.int .i64 0,.slice none 0 0,.int .i64 0,.int .i64 0,.bool false,.int .i64 0,.string ⟨#[]⟩]) 9 112 Tryz.underlying23 hi hz0 hz1 hz2 rfl (by decide) (.slice A us.length c) us.length (rowT us) rfl ho1.drew ⟨b,off,none⟩ l.length sc (rowT l) rfl (rowT_length l) hnews (rowT_one l) hlp (by unfold maxLen;omega) (by omega) hbs _ rfl ?_;intro g cap2 w2 hou2 hg2 hat2 hlt2;have hb2:=HB1.out.drew.grown hg2 HR.out.sep.symm;have q1:w2.cell? ⟨rb,0,none⟩=some (.slice A us.length c):=hb2.cell 0;have q2:=hb2.frozen 0;have q3:=hb2.lt))
  all_goals
   go_wp2_with fail
   go_end0
   have hk:Kept w (w2.setCell ⟨rb,0,none⟩ (.slice (some ⟨g,0,none⟩) (us.length+l.length) cap2)) (rb :: (Value.slice A us.length c).ownBlock.toList) :=
    (((Kept.of_below (L:=[]) HBA.out).trans ((Kept.drew (L:=[])).trans (Kept.of_grown' hg2))).trans (zyG _ _)).more (by intro k hk;simp at hk ⊢;rcases hk with h | h;exact .inl (.inr h);exact .inl (.inl h))
   have hgo:(Value.slice A us.length c).ownBlock=some g∨w.heap.size≤g:=hat2.imp id fun h=>by rw [h];exact hsz1
   have hgr:g≠rb:=fun e=>by
    rcases hgo with h | h
    ·exact HR.out.sep (by rw [h,e])
    ·omega
   have hL':∀ x∈X++rb :: ((Value.slice (some ⟨g,0,none⟩) (us.length+l.length) cap2).ownBlock).toList,x∈X++rb :: (Value.slice A us.length c).ownBlock.toList∨w.heap.size≤x∨x < B:=fun x hx=>by
    simp only [Value.ownBlock,Option.toList_some,zzM,zzN,zyA,or_false] at hx
    rcases hx with hx | rfl | rfl
    ·exact .inl (zzW _ hx)
    ·exact .inl (by simp)
    ·rcases hgo with h | h
     ·exact .inl (by rw [h];simp)
     ·exact .inr (.inl h)
   refine ⟨rfl,.slice (some ⟨g,0,none⟩) (us.length+l.length) cap2,⟨hb2.set_ 0 _,?_,?_,fun h=>hgr (by simpa [Value.ownBlock] using h)⟩,hk,?_⟩
   ·rw [zzG,rowT_append]
    exact own_kept hou2 (zyG (w:=w2) ⟨rb,0,none⟩ _) (fun x hx hm=>by simp [Value.ownBlock] at hx hm;exact hgr (by rw [hx,hm]))
   ·intro u hu
    rcases zzM.1 hu with hu | hu
    ·exact (HR.out.els u hu).fr_kept hk (fun x hx=>.inl (zzV _ hx)) hL'
    ·exact (HLL.out u hu).fr_kept hk (fun x hx=>.inl (zzV _ hx)) hL'
   ·rcases hgo with h | h
    ·exact .inl h.symm
    ·exact .inr ⟨g,rfl,h⟩
 ·have hk1:¬k=1:=by simpa using h1
  have hk4:¬k=4:=by simpa using h2
  have hp:putA (Ta.mk k r ra rc ast l sa sc mn mx z ix nm)=[Ta.mk k r ra rc ast l sa sc mn mx z ix nm]:=by rw [putA,if_neg hk1,if_neg hk4]
  rw [hp]
  clear hk1 hk4 hp
  have hb1:=hr.blk.alloc (.cells #[.int .i64 k,.slice ra r.length rc,.int .i64 ast,.slice sa l.length sc,.int .i64 mn,.int .i64 mx,.bool z,.int .i64 ix,.string nm] 25)
  have ho1:=own_below hr.own hba
  have ht1:=zyI w 25 [.int .i64 k,.slice ra r.length rc,.int .i64 ast,.slice sa l.length sc,.int .i64 mn,.int .i64 mx,.bool z,.int .i64 ix,.string nm]
  have hbs0:Bo≤(w.alloc (.cells #[.int .i64 k,.slice ra r.length rc,.int .i64 ast,.slice sa l.length sc,.int .i64 mn,.int .i64 mx,.bool z,.int .i64 ix,.string nm] 25)).heap.size:=zzU hB hba.size
  have hsz1:=hba.size
  simp only [Ta.val,Ta.vals]
  go_enter Tryz.func72,Tryz.ntmps72
  go_wp2_with fail
  have HT:=zzA ht
  generalize (w.alloc (.cells #[.int .i64 k,.slice ra r.length rc,.int .i64 ast,.slice sa l.length sc,.int .i64 mn,.int .i64 mx,.bool z,.int .i64 ix,.string nm] 25))=w1 at *
  have hb2:=hb1.alloc (.cells #[.int .i64 0,.slice none 0 0,.int .i64 0,.slice none 0 0,.int .i64 0,.int .i64 0,.bool false,.int .i64 0,.string ⟨#[]⟩] 25)
  have ht2:=ht1.alloc (.cells #[.int .i64 0,.slice none 0 0,.int .i64 0,.slice none 0 0,.int .i64 0,.int .i64 0,.bool false,.int .i64 0,.string ⟨#[]⟩] 25)
  have hb12:Below w1.heap.size w1 (w1.alloc (.cells #[.int .i64 0,.slice none 0 0,.int .i64 0,.slice none 0 0,.int .i64 0,.int .i64 0,.bool false,.int .i64 0,.string ⟨#[]⟩] 25)):=(zzb _ _).alloc (zzF _) _
  have ho2:=own_below ho1 hb12
  have hbs:Bo≤(w1.alloc (.cells #[.int .i64 0,.slice none 0 0,.int .i64 0,.slice none 0 0,.int .i64 0,.int .i64 0,.bool false,.int .i64 0,.string ⟨#[]⟩] 25)).drew.heap.size:=zzU hbs0 hb12.size
  have HSZ:=zzA (show w.heap.size≤(w1.alloc (.cells #[.int .i64 0,.slice none 0 0,.int .i64 0,.slice none 0 0,.int .i64 0,.int .i64 0,.bool false,.int .i64 0,.string ⟨#[]⟩] 25)).drew.heap.size from zzU hsz1 hb12.size)
  have e0:w1.drew.cell? ⟨rb,0,none⟩=some (.slice A us.length c):=hb1.cell 0
  have e0':(w1.alloc (.cells #[.int .i64 0,.slice none 0 0,.int .i64 0,.slice none 0 0,.int .i64 0,.int .i64 0,.bool false,.int .i64 0,.string ⟨#[]⟩] 25)).drew.cell? ⟨rb,0,none⟩=some (.slice A us.length c):=hb2.cell 0
  obtain ⟨g0,g1,g2,g3,g4,g5,g6,g7,g8⟩:=bc9 (ht1)
  obtain ⟨f0,f1,f2,f3,f4,f5,f6,f7,f8⟩:=bc9 (ht2)
  have HR:=zzA hr
  have HBA:=zzA hba
  have HB2:=zzA hb2
  have HO2:=zzA ho2
  have HB12:=zzA hb12
  have hlt01:(us.length:Int) < (us.length:Int)+1:=by omega
  clear hr hL hba hR hN ht hb1 hb2 ht1 ht2 ho1 ho2 hb12
  go_region_law (first
   | (refine step_append_lies _ rfl (.tmp 9) (.tmp 12) 23 rfl Bo 25 i0 (.agg #[.int .i64 0,.slice none 0 0,.int .i64 0,.slice none 0 0,.int .i64 0,.int .i64 0,.bool false,.int .i64 0,.string ⟨#[]⟩]) 9 112 Tryz.underlying23 hi hz0 hz1 hz2 rfl (by decide) (.slice A us.length c) us.length (rowT us) rfl HO2.out.drew ⟨w1.heap.size,0,none⟩ 1 1 [.int .i64 0,.slice none 0 0,.int .i64 0,.slice none 0 0,.int .i64 0,.int .i64 0,.bool false,.int .i64 0,.string ⟨#[]⟩] rfl rfl (new_atT w1 _ [.int .i64 0,.slice none 0 0,.int .i64 0,.slice none 0 0,.int .i64 0,.int .i64 0,.bool false,.int .i64 0,.string ⟨#[]⟩]) zT_one (by decide) (by unfold maxLen;omega) (by omega) hbs _ rfl ?_;intro g cap2 w2 hou2 hg2 hat2 hlt2;have hgo:=at_old HSZ.out hat2;have hgr:g≠rb:=(fun e=>(by rcases hgo with h | h;exact HR.out.sep (by rw [h,e]);omega));have hb2:=HB2.out.drew.grown hg2 HR.out.sep.symm;have q1:w2.cell? ⟨rb,0,none⟩=some (.slice A us.length c):=hb2.cell 0;have q2:=hb2.frozen 0;have q3:=hb2.lt;have HOU:=zzA (own_zero hou2);have HOS:=zzA (own_kept HOU.out (zyG (w:=w2) ⟨rb,0,none⟩ (.slice (some ⟨g,0,none⟩) (us.length+1) cap2)) (fun x hx hm=>by simp [Value.ownBlock] at hx hm;exact hgr (by rw [hx,hm])));have d0:w2.cell? ⟨g,us.length*9,none⟩=some (.int .i64 0):=own_cell HOU.out (zT_at us 0 (by omega));have e0:=own_frozen HOU.out (us.length*9);have x0:(w2.setCell ⟨rb,0,none⟩ (.slice (some ⟨g,0,none⟩) (us.length+1) cap2)).cell? ⟨g,us.length*9,none⟩=some (.int .i64 0):=own_cell HOS.out (zT_at us 0 (by omega));have y0:=own_frozen HOS.out (us.length*9);have d1:w2.cell? ⟨g,us.length*9+1,none⟩=some (.slice none 0 0):=own_cell HOU.out (zT_at us 1 (by omega));have e1:=own_frozen HOU.out (us.length*9+1);have x1:(w2.setCell ⟨rb,0,none⟩ (.slice (some ⟨g,0,none⟩) (us.length+1) cap2)).cell? ⟨g,us.length*9+1,none⟩=some (.slice none 0 0):=own_cell HOS.out (zT_at us 1 (by omega));have y1:=own_frozen HOS.out (us.length*9+1);have d2:w2.cell? ⟨g,us.length*9+2,none⟩=some (.int .i64 0):=own_cell HOU.out (zT_at us 2 (by omega));have e2:=own_frozen HOU.out (us.length*9+2);have x2:(w2.setCell ⟨rb,0,none⟩ (.slice (some ⟨g,0,none⟩) (us.length+1) cap2)).cell? ⟨g,us.length*9+2,none⟩=some (.int .i64 0):=own_cell HOS.out (zT_at us 2 (by omega));have y2:=own_frozen HOS.out (us.length*9+2);have d3:w2.cell? ⟨g,us.length*9+3,none⟩=some (.slice none 0 0):=own_cell HOU.out (zT_at us 3 (by omega));have e3:=own_frozen HOU.out (us.length*9+3);have x3:(w2.setCell ⟨rb,0,none⟩ (.slice (some ⟨g,0,none⟩) (us.length+1) cap2)).cell? ⟨g,us.length*9+3,none⟩=some (.slice none 0 0):=own_cell HOS.out (zT_at us 3 (by omega));have y3:=own_frozen HOS.out (us.length*9+3);have d4:w2.cell? ⟨g,us.length*9+4,none⟩=some (.int .i64 0):=own_cell HOU.out (zT_at us 4 (by omega));have e4:=own_frozen HOU.out (us.length*9+4);have x4:(w2.setCell ⟨rb,0,none⟩ (.slice (some ⟨g,0,none⟩) (us.length+1) cap2)).cell? ⟨g,us.length*9+4,none⟩=some (.int .i64 0):=own_cell HOS.out (zT_at us 4 (by omega));have y4:=own_frozen HOS.out (us.length*9+4);have d5:w2.cell? ⟨g,us.length*9+5,none⟩=some (.int .i64 0):=own_cell HOU.out (zT_at us 5 (by omega));have e5:=own_frozen HOU.out (us.length*9+5);have x5:(w2.setCell ⟨rb,0,none⟩ (.slice (some ⟨g,0,none⟩) (us.length+1) cap2)).cell? ⟨g,us.length*9+5,none⟩=some (.int .i64 0):=own_cell HOS.out (zT_at us 5 (by omega));have y5:=own_frozen HOS.out (us.length*9+5);have d6:w2.cell? ⟨g,us.length*9+6,none⟩=some (.bool false):=own_cell HOU.out (zT_at us 6 (by omega));have e6:=own_frozen HOU.out (us.length*9+6);have x6:(w2.setCell ⟨rb,0,none⟩ (.slice (some ⟨g,0,none⟩) (us.length+1) cap2)).cell? ⟨g,us.length*9+6,none⟩=some (.bool false):=own_cell HOS.out (zT_at us 6 (by omega));have y6:=own_frozen HOS.out (us.length*9+6);have d7:w2.cell? ⟨g,us.length*9+7,none⟩=some (.int .i64 0):=own_cell HOU.out (zT_at us 7 (by omega));have e7:=own_frozen HOU.out (us.length*9+7);have x7:(w2.setCell ⟨rb,0,none⟩ (.slice (some ⟨g,0,none⟩) (us.length+1) cap2)).cell? ⟨g,us.length*9+7,none⟩=some (.int .i64 0):=own_cell HOS.out (zT_at us 7 (by omega));have y7:=own_frozen HOS.out (us.length*9+7);have d8:w2.cell? ⟨g,us.length*9+8,none⟩=some (.string ⟨#[]⟩):=own_cell HOU.out (zT_at us 8 (by omega));have e8:=own_frozen HOU.out (us.length*9+8);have x8:(w2.setCell ⟨rb,0,none⟩ (.slice (some ⟨g,0,none⟩) (us.length+1) cap2)).cell? ⟨g,us.length*9+8,none⟩=some (.string ⟨#[]⟩):=own_cell HOS.out (zT_at us 8 (by omega));have y8:=own_frozen HOS.out (us.length*9+8);have q5:(((((((((w2.setCell ⟨g,us.length*9,none⟩ (.int .i64 k)).setCell ⟨g,us.length*9+1,none⟩ (.slice ra r.length rc)).setCell ⟨g,us.length*9+2,none⟩ (.int .i64 ast)).setCell ⟨g,us.length*9+3,none⟩ (.slice sa l.length sc)).setCell ⟨g,us.length*9+4,none⟩ (.int .i64 mn)).setCell ⟨g,us.length*9+5,none⟩ (.int .i64 mx)).setCell ⟨g,us.length*9+6,none⟩ (.bool z)).setCell ⟨g,us.length*9+7,none⟩ (.int .i64 ix)).setCell ⟨g,us.length*9+8,none⟩ (.string nm)).cell? ⟨rb,0,none⟩=some (.slice A us.length c):=((kept9 w2 g (us.length*9) (.int .i64 k) (.slice ra r.length rc) (.int .i64 ast) (.slice sa l.length sc) (.int .i64 mn) (.int .i64 mx) (.bool z) (.int .i64 ix) (.string nm)).cell (p:=⟨rb,0,none⟩) q3 (by simpa using hgr.symm)).trans q1;have q6:=(hb2.kept (kept9 w2 g (us.length*9) (.int .i64 k) (.slice ra r.length rc) (.int .i64 ast) (.slice sa l.length sc) (.int .i64 mn) (.int .i64 mx) (.bool z) (.int .i64 ix) (.string nm)) (by simpa using hgr.symm)).frozen 0;have HGO:=zzA hgo;have HGR:=zzA hgr;have HB3:=zzA hb2;have HG2:=zzA hg2;clear hgo hgr hb2 hg2 hou2 hat2))
  all_goals
   have hk0:=((Kept.of_below (L:=[]) HBA.out).trans ((Kept.of_below (L:=[]) HB12.out).trans ((Kept.drew (L:=[])).trans (Kept.of_grown' HG2.out)))).more (M:=(Value.slice A us.length c).ownBlock.toList) (by intro k hk;simp at hk ⊢;exact .inl hk)
   have hu0:(Ta.mk k r ra rc ast l sa sc mn mx z ix nm).vals=[.int .i64 k,.slice ra r.length rc,.int .i64 ast,.slice sa l.length sc,.int .i64 mn,.int .i64 mx,.bool z,.int .i64 ix,.string nm]:=rfl
   go_end0
   refine ⟨rfl,?_⟩
   first
    | with_reducible exact put_finA HR.out HT.out hk0 HGO.out HGR.out HB3.out HOU.out hu0
    | with_reducible exact put_finB HR.out HT.out hk0 HGO.out HGR.out HB3.out HOU.out hu0
end Go.Proofs.YtgkclnmmjedmkaaGreat
