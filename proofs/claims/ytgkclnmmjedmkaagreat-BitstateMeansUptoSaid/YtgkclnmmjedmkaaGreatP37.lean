/- simplify.simple's closure build: a group. -/
import Derived.Deep.RegionHeldLaw
import Derived.Test.YtgkclnmmjedmkaaGreatP36
set_option maxRecDepth 100000
set_option maxHeartbeats 2000000
namespace Go.Proofs.YtgkclnmmjedmkaaGreat
open Go.RowKit Tr
theorem bd_group (k:Int) (r:List (Int × Int)) (ra:Option Addr) (rc:Nat) (ast:Int) (l:List Ta) (sa:Option Addr) (sc:Nat) (mn mx:Int) (z:Bool) (ix:Int) (nm:ByteArray) (S:Nat→Prop) (w:World) (bc ec:Nat) (h:RT w S (.mk k r ra rc ast l sa sc mn mx z ix nm)) (hS:∀ b,S b→b < w.heap.size) (hcel:CEL bc ec w) (h7:(k==7)=true) (hl:l.length=1) (ih:∀ u∈l,BD u) (hal:∀ u∈l,allB u.tr=true) (hsz:∀ u∈l,size (simpleS u.tr)≤200000) :
  Calls Tryz.prog 71 #[(Ta.mk k r ra rc ast l sa sc mn mx z ix nm).val,.pointer (some ⟨bc,0,none⟩),.pointer (some ⟨ec,0,none⟩)] w fun e w'=>∃ u:Ta,e=.returned u.val∧u.tr=groupT (((trs l).map simpleS).headD emptyT) ix nm∧RT w' (Fr w.heap.size [] w') u∧Below w.heap.size w w':=by
 obtain ⟨⟨hR,hrl,hll,hnm⟩,hN,hL⟩:=h.parts
 have hcs:=cs_two w k ra r.length rc ast sa l.length sc mn mx z ix nm
 have hcl:=hcel.below hcs.below hcel.lt.1 hcel.lt.2
 have hbl:=hcel.lt
 have hsc:=hN.1
 have hsc2:=hN.2.1
 have HCS:=zzA hcs
 have HCL:=zzA hcl
 have hlt0:(0:Int) < (l.length:Int):=by omega
 obtain ⟨b,off,rfl,hSb,_⟩:=hN.2.2.2.2 (by omega)
 obtain ⟨u,hu⟩:∃ u,l[0]?=some u:=⟨_,zzJ (by omega)⟩
 have hum:u∈l:=zzL hu
 have hhd:trs l=[u.tr]:=by
  match l,hl,hu with
  | [x],_,hu=>simp at hu;subst hu;rfl
 have hcell:∀ W,Below w.heap.size w W→∀ j,j < 9→W.cell? ⟨b,off+j,none⟩=u.vals[j]?:=fun W hW j hj=>by
  have:=hN.node (j:=0) (t:=u) hu hj
  rw [Nat.zero_mul,zzw] at this
  rw [←this]
  exact hW.cell (p:=⟨b,off+j,none⟩) (hS b hSb)
 have hb2:Below w.heap.size w ((w.alloc (.cells #[.int .i64 k,.slice ra r.length rc,.int .i64 ast,.slice (some ⟨b,off,none⟩) l.length sc,.int .i64 mn,.int .i64 mx,.bool z,.int .i64 ix,.string nm] 25)).alloc (.cells #[.int .i64 0,.slice none 0 0,.int .i64 0,.slice none 0 0,.int .i64 0,.int .i64 0,.bool false,.int .i64 0,.string ⟨#[]⟩] 25)).drew:=bdrewN hcs.below 1
 have hRK:=ih u hum S ((w.alloc (.cells #[.int .i64 k,.slice ra r.length rc,.int .i64 ast,.slice (some ⟨b,off,none⟩) l.length sc,.int .i64 mn,.int .i64 mx,.bool z,.int .i64 ix,.string nm] 25)).alloc (.cells #[.int .i64 0,.slice none 0 0,.int .i64 0,.slice none 0 0,.int .i64 0,.int .i64 0,.bool false,.int .i64 0,.string ⟨#[]⟩] 25)).drew bc ec ((hL u hum).below hS hb2) (fun b hb=>zzQ (hS b hb) hb2.size) (hcel.below hb2 hcel.lt.1 hcel.lt.2) (hal u hum) (hsz u hum)
 have HGOOD:=zzA (simple_good _ (hal u hum)).1
 rw [hhd]
 have hlt1:(0:Int) < (l.length:Int):=hlt0
 clear hu hhd hb2 hlt0 hl
 obtain ⟨st,hst⟩:∃ q,q=simpleS u.tr:=⟨_,rfl⟩
 simp only [zzS,List.headD_cons,←hst]
 rw [←hst] at hRK HGOOD
 clear hst hum
 cases u with
 | mk k' r' ra' rc' a' l' sa' sc' n' m' z' i' s' =>
 simp only [Ta.vals] at hcell
 simp only [Ta.val,Ta.vals] at hRK
 have hk:∀ W,CS w [.int .i64 k,.slice ra r.length rc,.int .i64 ast,.slice (some ⟨b,off,none⟩) l.length sc,.int .i64 mn,.int .i64 mx,.bool z,.int .i64 ix,.string nm] W→CEL bc ec W→(W.cell? ⟨w.heap.size,3,none⟩=some (.slice (some ⟨b,off,none⟩) l.length sc)∧W.cell? ⟨w.heap.size,7,none⟩=some (.int .i64 ix)∧W.cell? ⟨w.heap.size,8,none⟩=some (.string nm)∧W.cell? ⟨b,off,none⟩=some (.int .i64 k')∧W.cell? ⟨b,off+1,none⟩=some (.slice ra' r'.length rc')∧W.cell? ⟨b,off+2,none⟩=some (.int .i64 a')∧W.cell? ⟨b,off+3,none⟩=some (.slice sa' l'.length sc')∧W.cell? ⟨b,off+4,none⟩=some (.int .i64 n')∧W.cell? ⟨b,off+5,none⟩=some (.int .i64 m')∧W.cell? ⟨b,off+6,none⟩=some (.bool z')∧W.cell? ⟨b,off+7,none⟩=some (.int .i64 i')∧W.cell? ⟨b,off+8,none⟩=some (.string s')∧W.cell? ⟨bc,0,none⟩=some (.func (Fn.func 71) #[] #[.pointer (some ⟨bc,0,none⟩),.pointer (some ⟨ec,0,none⟩)])):=fun W h1 h2 =>
  ⟨h1.node.cell 3,h1.node.cell 7,h1.node.cell 8,hcell W h1.below 0 (by omega),hcell W h1.below 1 (by omega),hcell W h1.below 2 (by omega),hcell W h1.below 3 (by omega),hcell W h1.below 4 (by omega),hcell W h1.below 5 (by omega),hcell W h1.below 6 (by omega),hcell W h1.below 7 (by omega),hcell W h1.below 8 (by omega),h2.1⟩
 have HK:=zzA hk
 have HKS:=zzA (show ∀ W,Below w.heap.size w W→Blk W w.heap.size 25 [.int .i64 k,.slice ra r.length rc,.int .i64 ast,.slice (some ⟨b,off,none⟩) l.length sc,.int .i64 mn,.int .i64 mx,.bool z,.int .i64 ix,.string nm]→CEL bc ec W→(W.cell? ⟨w.heap.size,3,none⟩=some (.slice (some ⟨b,off,none⟩) l.length sc)∧W.cell? ⟨w.heap.size,7,none⟩=some (.int .i64 ix)∧W.cell? ⟨w.heap.size,8,none⟩=some (.string nm)∧W.cell? ⟨b,off,none⟩=some (.int .i64 k')∧W.cell? ⟨b,off+1,none⟩=some (.slice ra' r'.length rc')∧W.cell? ⟨b,off+2,none⟩=some (.int .i64 a')∧W.cell? ⟨b,off+3,none⟩=some (.slice sa' l'.length sc')∧W.cell? ⟨b,off+4,none⟩=some (.int .i64 n')∧W.cell? ⟨b,off+5,none⟩=some (.int .i64 m')∧W.cell? ⟨b,off+6,none⟩=some (.bool z')∧W.cell? ⟨b,off+7,none⟩=some (.int .i64 i')∧W.cell? ⟨b,off+8,none⟩=some (.string s')∧W.cell? ⟨bc,0,none⟩=some (.func (Fn.func 71) #[] #[.pointer (some ⟨bc,0,none⟩),.pointer (some ⟨ec,0,none⟩)])) from fun W h1 h2 h3=>⟨h2.cell 3,h2.cell 7,h2.cell 8,hcell W h1 0 (by omega),hcell W h1 1 (by omega),hcell W h1 2 (by omega),hcell W h1 3 (by omega),hcell W h1 4 (by omega),hcell W h1 5 (by omega),hcell W h1 6 (by omega),hcell W h1 7 (by omega),hcell W h1 8 (by omega),h3.1⟩)
 have HIN:=zzA hRK
 have kA:((w.alloc (.cells #[.int .i64 k,.slice ra r.length rc,.int .i64 ast,.slice (some ⟨b,off,none⟩) l.length sc,.int .i64 mn,.int .i64 mx,.bool z,.int .i64 ix,.string nm] 25)).alloc (.cells #[.int .i64 0,.slice none 0 0,.int .i64 0,.slice none 0 0,.int .i64 0,.int .i64 0,.bool false,.int .i64 0,.string ⟨#[]⟩] 25)).drew.cell? ⟨w.heap.size,3,none⟩=some (.slice (some ⟨b,off,none⟩) l.length sc)∧((w.alloc (.cells #[.int .i64 k,.slice ra r.length rc,.int .i64 ast,.slice (some ⟨b,off,none⟩) l.length sc,.int .i64 mn,.int .i64 mx,.bool z,.int .i64 ix,.string nm] 25)).alloc (.cells #[.int .i64 0,.slice none 0 0,.int .i64 0,.slice none 0 0,.int .i64 0,.int .i64 0,.bool false,.int .i64 0,.string ⟨#[]⟩] 25)).drew.cell? ⟨w.heap.size,7,none⟩=some (.int .i64 ix)∧((w.alloc (.cells #[.int .i64 k,.slice ra r.length rc,.int .i64 ast,.slice (some ⟨b,off,none⟩) l.length sc,.int .i64 mn,.int .i64 mx,.bool z,.int .i64 ix,.string nm] 25)).alloc (.cells #[.int .i64 0,.slice none 0 0,.int .i64 0,.slice none 0 0,.int .i64 0,.int .i64 0,.bool false,.int .i64 0,.string ⟨#[]⟩] 25)).drew.cell? ⟨w.heap.size,8,none⟩=some (.string nm)∧((w.alloc (.cells #[.int .i64 k,.slice ra r.length rc,.int .i64 ast,.slice (some ⟨b,off,none⟩) l.length sc,.int .i64 mn,.int .i64 mx,.bool z,.int .i64 ix,.string nm] 25)).alloc (.cells #[.int .i64 0,.slice none 0 0,.int .i64 0,.slice none 0 0,.int .i64 0,.int .i64 0,.bool false,.int .i64 0,.string ⟨#[]⟩] 25)).drew.cell? ⟨b,off,none⟩=some (.int .i64 k')∧((w.alloc (.cells #[.int .i64 k,.slice ra r.length rc,.int .i64 ast,.slice (some ⟨b,off,none⟩) l.length sc,.int .i64 mn,.int .i64 mx,.bool z,.int .i64 ix,.string nm] 25)).alloc (.cells #[.int .i64 0,.slice none 0 0,.int .i64 0,.slice none 0 0,.int .i64 0,.int .i64 0,.bool false,.int .i64 0,.string ⟨#[]⟩] 25)).drew.cell? ⟨b,off+1,none⟩=some (.slice ra' r'.length rc')∧((w.alloc (.cells #[.int .i64 k,.slice ra r.length rc,.int .i64 ast,.slice (some ⟨b,off,none⟩) l.length sc,.int .i64 mn,.int .i64 mx,.bool z,.int .i64 ix,.string nm] 25)).alloc (.cells #[.int .i64 0,.slice none 0 0,.int .i64 0,.slice none 0 0,.int .i64 0,.int .i64 0,.bool false,.int .i64 0,.string ⟨#[]⟩] 25)).drew.cell? ⟨b,off+2,none⟩=some (.int .i64 a')∧((w.alloc (.cells #[.int .i64 k,.slice ra r.length rc,.int .i64 ast,.slice (some ⟨b,off,none⟩) l.length sc,.int .i64 mn,.int .i64 mx,.bool z,.int .i64 ix,.string nm] 25)).alloc (.cells #[.int .i64 0,.slice none 0 0,.int .i64 0,.slice none 0 0,.int .i64 0,.int .i64 0,.bool false,.int .i64 0,.string ⟨#[]⟩] 25)).drew.cell? ⟨b,off+3,none⟩=some (.slice sa' l'.length sc')∧((w.alloc (.cells #[.int .i64 k,.slice ra r.length rc,.int .i64 ast,.slice (some ⟨b,off,none⟩) l.length sc,.int .i64 mn,.int .i64 mx,.bool z,.int .i64 ix,.string nm] 25)).alloc (.cells #[.int .i64 0,.slice none 0 0,.int .i64 0,.slice none 0 0,.int .i64 0,.int .i64 0,.bool false,.int .i64 0,.string ⟨#[]⟩] 25)).drew.cell? ⟨b,off+4,none⟩=some (.int .i64 n')∧((w.alloc (.cells #[.int .i64 k,.slice ra r.length rc,.int .i64 ast,.slice (some ⟨b,off,none⟩) l.length sc,.int .i64 mn,.int .i64 mx,.bool z,.int .i64 ix,.string nm] 25)).alloc (.cells #[.int .i64 0,.slice none 0 0,.int .i64 0,.slice none 0 0,.int .i64 0,.int .i64 0,.bool false,.int .i64 0,.string ⟨#[]⟩] 25)).drew.cell? ⟨b,off+5,none⟩=some (.int .i64 m')∧((w.alloc (.cells #[.int .i64 k,.slice ra r.length rc,.int .i64 ast,.slice (some ⟨b,off,none⟩) l.length sc,.int .i64 mn,.int .i64 mx,.bool z,.int .i64 ix,.string nm] 25)).alloc (.cells #[.int .i64 0,.slice none 0 0,.int .i64 0,.slice none 0 0,.int .i64 0,.int .i64 0,.bool false,.int .i64 0,.string ⟨#[]⟩] 25)).drew.cell? ⟨b,off+6,none⟩=some (.bool z')∧((w.alloc (.cells #[.int .i64 k,.slice ra r.length rc,.int .i64 ast,.slice (some ⟨b,off,none⟩) l.length sc,.int .i64 mn,.int .i64 mx,.bool z,.int .i64 ix,.string nm] 25)).alloc (.cells #[.int .i64 0,.slice none 0 0,.int .i64 0,.slice none 0 0,.int .i64 0,.int .i64 0,.bool false,.int .i64 0,.string ⟨#[]⟩] 25)).drew.cell? ⟨b,off+7,none⟩=some (.int .i64 i')∧((w.alloc (.cells #[.int .i64 k,.slice ra r.length rc,.int .i64 ast,.slice (some ⟨b,off,none⟩) l.length sc,.int .i64 mn,.int .i64 mx,.bool z,.int .i64 ix,.string nm] 25)).alloc (.cells #[.int .i64 0,.slice none 0 0,.int .i64 0,.slice none 0 0,.int .i64 0,.int .i64 0,.bool false,.int .i64 0,.string ⟨#[]⟩] 25)).drew.cell? ⟨b,off+8,none⟩=some (.string s')∧((w.alloc (.cells #[.int .i64 k,.slice ra r.length rc,.int .i64 ast,.slice (some ⟨b,off,none⟩) l.length sc,.int .i64 mn,.int .i64 mx,.bool z,.int .i64 ix,.string nm] 25)).alloc (.cells #[.int .i64 0,.slice none 0 0,.int .i64 0,.slice none 0 0,.int .i64 0,.int .i64 0,.bool false,.int .i64 0,.string ⟨#[]⟩] 25)).drew.cell? ⟨bc,0,none⟩=some (.func (Fn.func 71) #[] #[.pointer (some ⟨bc,0,none⟩),.pointer (some ⟨ec,0,none⟩)]):=hk _ (hcs.bel (bdrewN (zzb _ _) 1)) (hcl.below (bdrewN (zzb _ _) 1) hcl.lt.1 hcl.lt.2)
 clear h hR hN hL hS hcs hcl hcel ih hal hsz hk hcell hRK
 simp only [Ta.val,Ta.vals]
 go_enter Tryz.func71,Tryz.ntmps71
 go_wp2_with fail
 generalize ((w.alloc (.cells #[.int .i64 k,.slice ra r.length rc,.int .i64 ast,.slice (some ⟨b,off,none⟩) l.length sc,.int .i64 mn,.int .i64 mx,.bool z,.int .i64 ix,.string nm] 25)).alloc (.cells #[.int .i64 0,.slice none 0 0,.int .i64 0,.slice none 0 0,.int .i64 0,.int .i64 0,.bool false,.int .i64 0,.string ⟨#[]⟩] 25))=w2 at *
 go_region_held_law (fun w'=>w'.cell? ⟨w.heap.size,3,none⟩=some (.slice (some ⟨b,off,none⟩) l.length sc)∧w'.cell? ⟨w.heap.size,7,none⟩=some (.int .i64 ix)∧w'.cell? ⟨w.heap.size,8,none⟩=some (.string nm)∧w'.cell? ⟨b,off,none⟩=some (.int .i64 k')∧w'.cell? ⟨b,off+1,none⟩=some (.slice ra' r'.length rc')∧w'.cell? ⟨b,off+2,none⟩=some (.int .i64 a')∧w'.cell? ⟨b,off+3,none⟩=some (.slice sa' l'.length sc')∧w'.cell? ⟨b,off+4,none⟩=some (.int .i64 n')∧w'.cell? ⟨b,off+5,none⟩=some (.int .i64 m')∧w'.cell? ⟨b,off+6,none⟩=some (.bool z')∧w'.cell? ⟨b,off+7,none⟩=some (.int .i64 i')∧w'.cell? ⟨b,off+8,none⟩=some (.string s')∧w'.cell? ⟨bc,0,none⟩=some (.func (Fn.func 71) #[] #[.pointer (some ⟨bc,0,none⟩),.pointer (some ⟨ec,0,none⟩)])) (first | with_reducible exact kA | with_reducible exact kB | with_reducible exact kC | with_reducible exact kD) (first
  | (go_at_call 71;refine HIN.out.mono ?_;rintro e w5 ⟨u5,rfl,htr5,hrt5,hb5⟩;have hbd:=(bdrewN (zzb w2.heap.size w2) 1).trans hb5;have HC5:=zzA (HCS.out.bel hbd);have HCL5:=zzA (HCL.out.below hbd HCL.out.lt.1 HCL.out.lt.2);have HRT5:=zzA (show RT w5 (Fr w2.heap.size [] w5) u5 from hrt5);have HTR5:=zzA htr5;have HS5:=zzA (show w2.heap.size≤w5.heap.size from hb5.size);clear hbd htr5 hrt5 hb5;obtain ⟨k2,r2,ra2,rc2,a2,l2,sa2,sc2,n2,m2,z2,i2,s2⟩:=u5;have kB:w5.cell? ⟨w.heap.size,3,none⟩=some (.slice (some ⟨b,off,none⟩) l.length sc)∧w5.cell? ⟨w.heap.size,7,none⟩=some (.int .i64 ix)∧w5.cell? ⟨w.heap.size,8,none⟩=some (.string nm)∧w5.cell? ⟨b,off,none⟩=some (.int .i64 k')∧w5.cell? ⟨b,off+1,none⟩=some (.slice ra' r'.length rc')∧w5.cell? ⟨b,off+2,none⟩=some (.int .i64 a')∧w5.cell? ⟨b,off+3,none⟩=some (.slice sa' l'.length sc')∧w5.cell? ⟨b,off+4,none⟩=some (.int .i64 n')∧w5.cell? ⟨b,off+5,none⟩=some (.int .i64 m')∧w5.cell? ⟨b,off+6,none⟩=some (.bool z')∧w5.cell? ⟨b,off+7,none⟩=some (.int .i64 i')∧w5.cell? ⟨b,off+8,none⟩=some (.string s')∧w5.cell? ⟨bc,0,none⟩=some (.func (Fn.func 71) #[] #[.pointer (some ⟨bc,0,none⟩),.pointer (some ⟨ec,0,none⟩)]):=HK.out _ HC5.out HCL5.out;have hba:Below w5.heap.size w5 (w5.alloc (.cells #[.int .i64 k2,.slice ra2 r2.length rc2,.int .i64 a2,.slice sa2 l2.length sc2,.int .i64 n2,.int .i64 m2,.bool z2,.int .i64 i2,.string s2] 25)):=(zzb _ _).alloc (zzF _) _;have HC6:=zzA (HC5.out.bel hba);have HCL6:=zzA (HCL5.out.below hba HCL5.out.lt.1 HCL5.out.lt.2);have HSB6:=zzA (zyI w5 25 [.int .i64 k2,.slice ra2 r2.length rc2,.int .i64 a2,.slice sa2 l2.length sc2,.int .i64 n2,.int .i64 m2,.bool z2,.int .i64 i2,.string s2]);have HRT6:=zzA (HRT5.out.fr_below hba);have HZ6:=zzA hba.size;clear hba;have q0:(w5.alloc (.cells #[.int .i64 k2,.slice ra2 r2.length rc2,.int .i64 a2,.slice sa2 l2.length sc2,.int .i64 n2,.int .i64 m2,.bool z2,.int .i64 i2,.string s2] 25)).cell? ⟨w.heap.size+1,0,none⟩=some (.int .i64 0):=HC6.out.res.cell 0;have q1:(w5.alloc (.cells #[.int .i64 k2,.slice ra2 r2.length rc2,.int .i64 a2,.slice sa2 l2.length sc2,.int .i64 n2,.int .i64 m2,.bool z2,.int .i64 i2,.string s2] 25)).cell? ⟨w.heap.size+1,1,none⟩=some (.slice none 0 0):=HC6.out.res.cell 1;have q2:(w5.alloc (.cells #[.int .i64 k2,.slice ra2 r2.length rc2,.int .i64 a2,.slice sa2 l2.length sc2,.int .i64 n2,.int .i64 m2,.bool z2,.int .i64 i2,.string s2] 25)).cell? ⟨w.heap.size+1,2,none⟩=some (.int .i64 0):=HC6.out.res.cell 2;have q3:(w5.alloc (.cells #[.int .i64 k2,.slice ra2 r2.length rc2,.int .i64 a2,.slice sa2 l2.length sc2,.int .i64 n2,.int .i64 m2,.bool z2,.int .i64 i2,.string s2] 25)).cell? ⟨w.heap.size+1,3,none⟩=some (.slice none 0 0):=HC6.out.res.cell 3;have q4:(w5.alloc (.cells #[.int .i64 k2,.slice ra2 r2.length rc2,.int .i64 a2,.slice sa2 l2.length sc2,.int .i64 n2,.int .i64 m2,.bool z2,.int .i64 i2,.string s2] 25)).cell? ⟨w.heap.size+1,4,none⟩=some (.int .i64 0):=HC6.out.res.cell 4;have q5:(w5.alloc (.cells #[.int .i64 k2,.slice ra2 r2.length rc2,.int .i64 a2,.slice sa2 l2.length sc2,.int .i64 n2,.int .i64 m2,.bool z2,.int .i64 i2,.string s2] 25)).cell? ⟨w.heap.size+1,5,none⟩=some (.int .i64 0):=HC6.out.res.cell 5;have q6:(w5.alloc (.cells #[.int .i64 k2,.slice ra2 r2.length rc2,.int .i64 a2,.slice sa2 l2.length sc2,.int .i64 n2,.int .i64 m2,.bool z2,.int .i64 i2,.string s2] 25)).cell? ⟨w.heap.size+1,6,none⟩=some (.bool false):=HC6.out.res.cell 6;have q7:(w5.alloc (.cells #[.int .i64 k2,.slice ra2 r2.length rc2,.int .i64 a2,.slice sa2 l2.length sc2,.int .i64 n2,.int .i64 m2,.bool z2,.int .i64 i2,.string s2] 25)).cell? ⟨w.heap.size+1,7,none⟩=some (.int .i64 0):=HC6.out.res.cell 7;have q8:(w5.alloc (.cells #[.int .i64 k2,.slice ra2 r2.length rc2,.int .i64 a2,.slice sa2 l2.length sc2,.int .i64 n2,.int .i64 m2,.bool z2,.int .i64 i2,.string s2] 25)).cell? ⟨w.heap.size+1,8,none⟩=some (.string ⟨#[]⟩):=HC6.out.res.cell 8;have fz0:=HC6.out.res.frozen 0;have fz1:=HC6.out.res.frozen 1;have fz2:=HC6.out.res.frozen 2;have fz3:=HC6.out.res.frozen 3;have fz4:=HC6.out.res.frozen 4;have fz5:=HC6.out.res.frozen 5;have fz6:=HC6.out.res.frozen 6;have fz7:=HC6.out.res.frozen 7;have fz8:=HC6.out.res.frozen 8;have fz9:=HC6.out.res.lt;have hk7:=kept9 (w5.alloc (.cells #[.int .i64 k2,.slice ra2 r2.length rc2,.int .i64 a2,.slice sa2 l2.length sc2,.int .i64 n2,.int .i64 m2,.bool z2,.int .i64 i2,.string s2] 25)) (w.heap.size+1) 0 (.int .i64 7) (.slice none 0 0) (.int .i64 0) (.slice (some ⟨w5.heap.size,0,none⟩) 1 1) (.int .i64 0) (.int .i64 0) (.bool false) (.int .i64 ix) (.string nm);have kC:(w5.alloc (.cells #[.int .i64 k2,.slice ra2 r2.length rc2,.int .i64 a2,.slice sa2 l2.length sc2,.int .i64 n2,.int .i64 m2,.bool z2,.int .i64 i2,.string s2] 25)).cell? ⟨w.heap.size,3,none⟩=some (.slice (some ⟨b,off,none⟩) l.length sc)∧(w5.alloc (.cells #[.int .i64 k2,.slice ra2 r2.length rc2,.int .i64 a2,.slice sa2 l2.length sc2,.int .i64 n2,.int .i64 m2,.bool z2,.int .i64 i2,.string s2] 25)).cell? ⟨w.heap.size,7,none⟩=some (.int .i64 ix)∧(w5.alloc (.cells #[.int .i64 k2,.slice ra2 r2.length rc2,.int .i64 a2,.slice sa2 l2.length sc2,.int .i64 n2,.int .i64 m2,.bool z2,.int .i64 i2,.string s2] 25)).cell? ⟨w.heap.size,8,none⟩=some (.string nm)∧(w5.alloc (.cells #[.int .i64 k2,.slice ra2 r2.length rc2,.int .i64 a2,.slice sa2 l2.length sc2,.int .i64 n2,.int .i64 m2,.bool z2,.int .i64 i2,.string s2] 25)).cell? ⟨b,off,none⟩=some (.int .i64 k')∧(w5.alloc (.cells #[.int .i64 k2,.slice ra2 r2.length rc2,.int .i64 a2,.slice sa2 l2.length sc2,.int .i64 n2,.int .i64 m2,.bool z2,.int .i64 i2,.string s2] 25)).cell? ⟨b,off+1,none⟩=some (.slice ra' r'.length rc')∧(w5.alloc (.cells #[.int .i64 k2,.slice ra2 r2.length rc2,.int .i64 a2,.slice sa2 l2.length sc2,.int .i64 n2,.int .i64 m2,.bool z2,.int .i64 i2,.string s2] 25)).cell? ⟨b,off+2,none⟩=some (.int .i64 a')∧(w5.alloc (.cells #[.int .i64 k2,.slice ra2 r2.length rc2,.int .i64 a2,.slice sa2 l2.length sc2,.int .i64 n2,.int .i64 m2,.bool z2,.int .i64 i2,.string s2] 25)).cell? ⟨b,off+3,none⟩=some (.slice sa' l'.length sc')∧(w5.alloc (.cells #[.int .i64 k2,.slice ra2 r2.length rc2,.int .i64 a2,.slice sa2 l2.length sc2,.int .i64 n2,.int .i64 m2,.bool z2,.int .i64 i2,.string s2] 25)).cell? ⟨b,off+4,none⟩=some (.int .i64 n')∧(w5.alloc (.cells #[.int .i64 k2,.slice ra2 r2.length rc2,.int .i64 a2,.slice sa2 l2.length sc2,.int .i64 n2,.int .i64 m2,.bool z2,.int .i64 i2,.string s2] 25)).cell? ⟨b,off+5,none⟩=some (.int .i64 m')∧(w5.alloc (.cells #[.int .i64 k2,.slice ra2 r2.length rc2,.int .i64 a2,.slice sa2 l2.length sc2,.int .i64 n2,.int .i64 m2,.bool z2,.int .i64 i2,.string s2] 25)).cell? ⟨b,off+6,none⟩=some (.bool z')∧(w5.alloc (.cells #[.int .i64 k2,.slice ra2 r2.length rc2,.int .i64 a2,.slice sa2 l2.length sc2,.int .i64 n2,.int .i64 m2,.bool z2,.int .i64 i2,.string s2] 25)).cell? ⟨b,off+7,none⟩=some (.int .i64 i')∧(w5.alloc (.cells #[.int .i64 k2,.slice ra2 r2.length rc2,.int .i64 a2,.slice sa2 l2.length sc2,.int .i64 n2,.int .i64 m2,.bool z2,.int .i64 i2,.string s2] 25)).cell? ⟨b,off+8,none⟩=some (.string s')∧(w5.alloc (.cells #[.int .i64 k2,.slice ra2 r2.length rc2,.int .i64 a2,.slice sa2 l2.length sc2,.int .i64 n2,.int .i64 m2,.bool z2,.int .i64 i2,.string s2] 25)).cell? ⟨bc,0,none⟩=some (.func (Fn.func 71) #[] #[.pointer (some ⟨bc,0,none⟩),.pointer (some ⟨ec,0,none⟩)]):=HK.out _ HC6.out HCL6.out;have hlow:Below (w.heap.size+1) (w5.alloc (.cells #[.int .i64 k2,.slice ra2 r2.length rc2,.int .i64 a2,.slice sa2 l2.length sc2,.int .i64 n2,.int .i64 m2,.bool z2,.int .i64 i2,.string s2] 25)) ((((((((((w5.alloc (.cells #[.int .i64 k2,.slice ra2 r2.length rc2,.int .i64 a2,.slice sa2 l2.length sc2,.int .i64 n2,.int .i64 m2,.bool z2,.int .i64 i2,.string s2] 25)).setCell ⟨w.heap.size+1,0,none⟩ (.int .i64 7)).setCell ⟨w.heap.size+1,1,none⟩ (.slice none 0 0)).setCell ⟨w.heap.size+1,2,none⟩ (.int .i64 0)).setCell ⟨w.heap.size+1,3,none⟩ (.slice (some ⟨w5.heap.size,0,none⟩) 1 1)).setCell ⟨w.heap.size+1,4,none⟩ (.int .i64 0)).setCell ⟨w.heap.size+1,5,none⟩ (.int .i64 0)).setCell ⟨w.heap.size+1,6,none⟩ (.bool false)).setCell ⟨w.heap.size+1,7,none⟩ (.int .i64 ix)).setCell ⟨w.heap.size+1,8,none⟩ (.string nm)):=hk7.below (by simp) (by have:=HC6.out.res.lt;omega);have kD:((((((((((w5.alloc (.cells #[.int .i64 k2,.slice ra2 r2.length rc2,.int .i64 a2,.slice sa2 l2.length sc2,.int .i64 n2,.int .i64 m2,.bool z2,.int .i64 i2,.string s2] 25)).setCell ⟨w.heap.size+1,0,none⟩ (.int .i64 7)).setCell ⟨w.heap.size+1,1,none⟩ (.slice none 0 0)).setCell ⟨w.heap.size+1,2,none⟩ (.int .i64 0)).setCell ⟨w.heap.size+1,3,none⟩ (.slice (some ⟨w5.heap.size,0,none⟩) 1 1)).setCell ⟨w.heap.size+1,4,none⟩ (.int .i64 0)).setCell ⟨w.heap.size+1,5,none⟩ (.int .i64 0)).setCell ⟨w.heap.size+1,6,none⟩ (.bool false)).setCell ⟨w.heap.size+1,7,none⟩ (.int .i64 ix)).setCell ⟨w.heap.size+1,8,none⟩ (.string nm)).cell? ⟨w.heap.size,3,none⟩=some (.slice (some ⟨b,off,none⟩) l.length sc)∧((((((((((w5.alloc (.cells #[.int .i64 k2,.slice ra2 r2.length rc2,.int .i64 a2,.slice sa2 l2.length sc2,.int .i64 n2,.int .i64 m2,.bool z2,.int .i64 i2,.string s2] 25)).setCell ⟨w.heap.size+1,0,none⟩ (.int .i64 7)).setCell ⟨w.heap.size+1,1,none⟩ (.slice none 0 0)).setCell ⟨w.heap.size+1,2,none⟩ (.int .i64 0)).setCell ⟨w.heap.size+1,3,none⟩ (.slice (some ⟨w5.heap.size,0,none⟩) 1 1)).setCell ⟨w.heap.size+1,4,none⟩ (.int .i64 0)).setCell ⟨w.heap.size+1,5,none⟩ (.int .i64 0)).setCell ⟨w.heap.size+1,6,none⟩ (.bool false)).setCell ⟨w.heap.size+1,7,none⟩ (.int .i64 ix)).setCell ⟨w.heap.size+1,8,none⟩ (.string nm)).cell? ⟨w.heap.size,7,none⟩=some (.int .i64 ix)∧((((((((((w5.alloc (.cells #[.int .i64 k2,.slice ra2 r2.length rc2,.int .i64 a2,.slice sa2 l2.length sc2,.int .i64 n2,.int .i64 m2,.bool z2,.int .i64 i2,.string s2] 25)).setCell ⟨w.heap.size+1,0,none⟩ (.int .i64 7)).setCell ⟨w.heap.size+1,1,none⟩ (.slice none 0 0)).setCell ⟨w.heap.size+1,2,none⟩ (.int .i64 0)).setCell ⟨w.heap.size+1,3,none⟩ (.slice (some ⟨w5.heap.size,0,none⟩) 1 1)).setCell ⟨w.heap.size+1,4,none⟩ (.int .i64 0)).setCell ⟨w.heap.size+1,5,none⟩ (.int .i64 0)).setCell ⟨w.heap.size+1,6,none⟩ (.bool false)).setCell ⟨w.heap.size+1,7,none⟩ (.int .i64 ix)).setCell ⟨w.heap.size+1,8,none⟩ (.string nm)).cell? ⟨w.heap.size,8,none⟩=some (.string nm)∧((((((((((w5.alloc (.cells #[.int .i64 k2,.slice ra2 r2.length rc2,.int .i64 a2,.slice sa2 l2.length sc2,.int .i64 n2,.int .i64 m2,.bool z2,.int .i64 i2,.string s2] 25)).setCell ⟨w.heap.size+1,0,none⟩ (.int .i64 7)).setCell ⟨w.heap.size+1,1,none⟩ (.slice none 0 0)).setCell ⟨w.heap.size+1,2,none⟩ (.int .i64 0)).setCell ⟨w.heap.size+1,3,none⟩ (.slice (some ⟨w5.heap.size,0,none⟩) 1 1)).setCell ⟨w.heap.size+1,4,none⟩ (.int .i64 0)).setCell ⟨w.heap.size+1,5,none⟩ (.int .i64 0)).setCell ⟨w.heap.size+1,6,none⟩ (.bool false)).setCell ⟨w.heap.size+1,7,none⟩ (.int .i64 ix)).setCell ⟨w.heap.size+1,8,none⟩ (.string nm)).cell? ⟨b,off,none⟩=some (.int .i64 k')∧((((((((((w5.alloc (.cells #[.int .i64 k2,.slice ra2 r2.length rc2,.int .i64 a2,.slice sa2 l2.length sc2,.int .i64 n2,.int .i64 m2,.bool z2,.int .i64 i2,.string s2] 25)).setCell ⟨w.heap.size+1,0,none⟩ (.int .i64 7)).setCell ⟨w.heap.size+1,1,none⟩ (.slice none 0 0)).setCell ⟨w.heap.size+1,2,none⟩ (.int .i64 0)).setCell ⟨w.heap.size+1,3,none⟩ (.slice (some ⟨w5.heap.size,0,none⟩) 1 1)).setCell ⟨w.heap.size+1,4,none⟩ (.int .i64 0)).setCell ⟨w.heap.size+1,5,none⟩ (.int .i64 0)).setCell ⟨w.heap.size+1,6,none⟩ (.bool false)).setCell ⟨w.heap.size+1,7,none⟩ (.int .i64 ix)).setCell ⟨w.heap.size+1,8,none⟩ (.string nm)).cell? ⟨b,off+1,none⟩=some (.slice ra' r'.length rc')∧((((((((((w5.alloc (.cells #[.int .i64 k2,.slice ra2 r2.length rc2,.int .i64 a2,.slice sa2 l2.length sc2,.int .i64 n2,.int .i64 m2,.bool z2,.int .i64 i2,.string s2] 25)).setCell ⟨w.heap.size+1,0,none⟩ (.int .i64 7)).setCell ⟨w.heap.size+1,1,none⟩ (.slice none 0 0)).setCell ⟨w.heap.size+1,2,none⟩ (.int .i64 0)).setCell ⟨w.heap.size+1,3,none⟩ (.slice (some ⟨w5.heap.size,0,none⟩) 1 1)).setCell ⟨w.heap.size+1,4,none⟩ (.int .i64 0)).setCell ⟨w.heap.size+1,5,none⟩ (.int .i64 0)).setCell ⟨w.heap.size+1,6,none⟩ (.bool false)).setCell ⟨w.heap.size+1,7,none⟩ (.int .i64 ix)).setCell ⟨w.heap.size+1,8,none⟩ (.string nm)).cell? ⟨b,off+2,none⟩=some (.int .i64 a')∧((((((((((w5.alloc (.cells #[.int .i64 k2,.slice ra2 r2.length rc2,.int .i64 a2,.slice sa2 l2.length sc2,.int .i64 n2,.int .i64 m2,.bool z2,.int .i64 i2,.string s2] 25)).setCell ⟨w.heap.size+1,0,none⟩ (.int .i64 7)).setCell ⟨w.heap.size+1,1,none⟩ (.slice none 0 0)).setCell ⟨w.heap.size+1,2,none⟩ (.int .i64 0)).setCell ⟨w.heap.size+1,3,none⟩ (.slice (some ⟨w5.heap.size,0,none⟩) 1 1)).setCell ⟨w.heap.size+1,4,none⟩ (.int .i64 0)).setCell ⟨w.heap.size+1,5,none⟩ (.int .i64 0)).setCell ⟨w.heap.size+1,6,none⟩ (.bool false)).setCell ⟨w.heap.size+1,7,none⟩ (.int .i64 ix)).setCell ⟨w.heap.size+1,8,none⟩ (.string nm)).cell? ⟨b,off+3,none⟩=some (.slice sa' l'.length sc')∧((((((((((w5.alloc (.cells #[.int .i64 k2,.slice ra2 r2.length rc2,.int .i64 a2,.slice sa2 l2.length sc2,.int .i64 n2,.int .i64 m2,.bool z2,.int .i64 i2,.string s2] 25)).setCell ⟨w.heap.size+1,0,none⟩ (.int .i64 7)).setCell ⟨w.heap.size+1,1,none⟩ (.slice none 0 0)).setCell ⟨w.heap.size+1,2,none⟩ (.int .i64 0)).setCell ⟨w.heap.size+1,3,none⟩ (.slice (some ⟨w5.heap.size,0,none⟩) 1 1)).setCell ⟨w.heap.size+1,4,none⟩ (.int .i64 0)).setCell ⟨w.heap.size+1,5,none⟩ (.int .i64 0)).setCell ⟨w.heap.size+1,6,none⟩ (.bool false)).setCell ⟨w.heap.size+1,7,none⟩ (.int .i64 ix)).setCell ⟨w.heap.size+1,8,none⟩ (.string nm)).cell? ⟨b,off+4,none⟩=some (.int .i64 n')∧((((((((((w5.alloc (.cells #[.int .i64 k2,.slice ra2 r2.length rc2,.int .i64 a2,.slice sa2 l2.length sc2,.int .i64 n2,.int .i64 m2,.bool z2,.int .i64 i2,.string s2] 25)).setCell ⟨w.heap.size+1,0,none⟩ (.int .i64 7)).setCell ⟨w.heap.size+1,1,none⟩ (.slice none 0 0)).setCell ⟨w.heap.size+1,2,none⟩ (.int .i64 0)).setCell ⟨w.heap.size+1,3,none⟩ (.slice (some ⟨w5.heap.size,0,none⟩) 1 1)).setCell ⟨w.heap.size+1,4,none⟩ (.int .i64 0)).setCell ⟨w.heap.size+1,5,none⟩ (.int .i64 0)).setCell ⟨w.heap.size+1,6,none⟩ (.bool false)).setCell ⟨w.heap.size+1,7,none⟩ (.int .i64 ix)).setCell ⟨w.heap.size+1,8,none⟩ (.string nm)).cell? ⟨b,off+5,none⟩=some (.int .i64 m')∧((((((((((w5.alloc (.cells #[.int .i64 k2,.slice ra2 r2.length rc2,.int .i64 a2,.slice sa2 l2.length sc2,.int .i64 n2,.int .i64 m2,.bool z2,.int .i64 i2,.string s2] 25)).setCell ⟨w.heap.size+1,0,none⟩ (.int .i64 7)).setCell ⟨w.heap.size+1,1,none⟩ (.slice none 0 0)).setCell ⟨w.heap.size+1,2,none⟩ (.int .i64 0)).setCell ⟨w.heap.size+1,3,none⟩ (.slice (some ⟨w5.heap.size,0,none⟩) 1 1)).setCell ⟨w.heap.size+1,4,none⟩ (.int .i64 0)).setCell ⟨w.heap.size+1,5,none⟩ (.int .i64 0)).setCell ⟨w.heap.size+1,6,none⟩ (.bool false)).setCell ⟨w.heap.size+1,7,none⟩ (.int .i64 ix)).setCell ⟨w.heap.size+1,8,none⟩ (.string nm)).cell? ⟨b,off+6,none⟩=some (.bool z')∧((((((((((w5.alloc (.cells #[.int .i64 k2,.slice ra2 r2.length rc2,.int .i64 a2,.slice sa2 l2.length sc2,.int .i64 n2,.int .i64 m2,.bool z2,.int .i64 i2,.string s2] 25)).setCell ⟨w.heap.size+1,0,none⟩ (.int .i64 7)).setCell ⟨w.heap.size+1,1,none⟩ (.slice none 0 0)).setCell ⟨w.heap.size+1,2,none⟩ (.int .i64 0)).setCell ⟨w.heap.size+1,3,none⟩ (.slice (some ⟨w5.heap.size,0,none⟩) 1 1)).setCell ⟨w.heap.size+1,4,none⟩ (.int .i64 0)).setCell ⟨w.heap.size+1,5,none⟩ (.int .i64 0)).setCell ⟨w.heap.size+1,6,none⟩ (.bool false)).setCell ⟨w.heap.size+1,7,none⟩ (.int .i64 ix)).setCell ⟨w.heap.size+1,8,none⟩ (.string nm)).cell? ⟨b,off+7,none⟩=some (.int .i64 i')∧((((((((((w5.alloc (.cells #[.int .i64 k2,.slice ra2 r2.length rc2,.int .i64 a2,.slice sa2 l2.length sc2,.int .i64 n2,.int .i64 m2,.bool z2,.int .i64 i2,.string s2] 25)).setCell ⟨w.heap.size+1,0,none⟩ (.int .i64 7)).setCell ⟨w.heap.size+1,1,none⟩ (.slice none 0 0)).setCell ⟨w.heap.size+1,2,none⟩ (.int .i64 0)).setCell ⟨w.heap.size+1,3,none⟩ (.slice (some ⟨w5.heap.size,0,none⟩) 1 1)).setCell ⟨w.heap.size+1,4,none⟩ (.int .i64 0)).setCell ⟨w.heap.size+1,5,none⟩ (.int .i64 0)).setCell ⟨w.heap.size+1,6,none⟩ (.bool false)).setCell ⟨w.heap.size+1,7,none⟩ (.int .i64 ix)).setCell ⟨w.heap.size+1,8,none⟩ (.string nm)).cell? ⟨b,off+8,none⟩=some (.string s')∧((((((((((w5.alloc (.cells #[.int .i64 k2,.slice ra2 r2.length rc2,.int .i64 a2,.slice sa2 l2.length sc2,.int .i64 n2,.int .i64 m2,.bool z2,.int .i64 i2,.string s2] 25)).setCell ⟨w.heap.size+1,0,none⟩ (.int .i64 7)).setCell ⟨w.heap.size+1,1,none⟩ (.slice none 0 0)).setCell ⟨w.heap.size+1,2,none⟩ (.int .i64 0)).setCell ⟨w.heap.size+1,3,none⟩ (.slice (some ⟨w5.heap.size,0,none⟩) 1 1)).setCell ⟨w.heap.size+1,4,none⟩ (.int .i64 0)).setCell ⟨w.heap.size+1,5,none⟩ (.int .i64 0)).setCell ⟨w.heap.size+1,6,none⟩ (.bool false)).setCell ⟨w.heap.size+1,7,none⟩ (.int .i64 ix)).setCell ⟨w.heap.size+1,8,none⟩ (.string nm)).cell? ⟨bc,0,none⟩=some (.func (Fn.func 71) #[] #[.pointer (some ⟨bc,0,none⟩),.pointer (some ⟨ec,0,none⟩)]):=HKS.out _ (HC6.out.below.trans (hlow.mono (by omega))) (HC6.out.node.below hlow (by omega)) (HCL6.out.below hlow (by omega) (by omega));clear hk7 hlow;simp only [Ta.val,Ta.vals]))
 go_wp2_with fail
 have hRT:RT (w5.alloc (.cells #[.int .i64 k2,.slice ra2 r2.length rc2,.int .i64 a2,.slice sa2 l2.length sc2,.int .i64 n2,.int .i64 m2,.bool z2,.int .i64 i2,.string s2] 25)) (Fr w.heap.size [w.heap.size+1] (w5.alloc (.cells #[.int .i64 k2,.slice ra2 r2.length rc2,.int .i64 a2,.slice sa2 l2.length sc2,.int .i64 n2,.int .i64 m2,.bool z2,.int .i64 i2,.string s2] 25))) (Ta.mk 7 [] none 0 0 [Ta.mk k2 r2 ra2 rc2 a2 l2 sa2 sc2 n2 m2 z2 i2 s2] (some ⟨w5.heap.size,0,none⟩) 1 0 0 false ix nm):=by
  have hw5:=HS5.out
  refine RT.of ⟨RdA.none_,by simp,by simp,hnm⟩ ?_ ?_
  ·refine ⟨zzF _,by decide,rfl,(fun h=>by cases h),fun _=>⟨w5.heap.size,0,rfl,⟨HC5.out.below.size,HSB6.out.lt,fun hm=>by simp at hm;have:=HC5.out.res.lt;omega⟩,fun j v hj=>?_⟩⟩
   rw [zzw,HSB6.out.cell]
   simpa [rowT,Ta.vals] using hj
  ·intro v hv
   simp only [zzE] at hv
   subst hv
   exact HRT6.out.fr_in (by have h1:=HCS.out.below.size;omega) (by intro x hx;simp at hx;have h0:=HCS.out.res.lt;omega)
 refine zzm (node_ret rfl _ _ (w.heap.size+1) (Ta.mk 7 [] none 0 0 [Ta.mk k2 r2 ra2 rc2 a2 l2 sa2 sc2 n2 m2 z2 i2 s2] (some ⟨w5.heap.size,0,none⟩) 1 0 0 false ix nm) rfl (show Blk ((((((((((w5.alloc (.cells #[.int .i64 k2,.slice ra2 r2.length rc2,.int .i64 a2,.slice sa2 l2.length sc2,.int .i64 n2,.int .i64 m2,.bool z2,.int .i64 i2,.string s2] 25)).setCell ⟨w.heap.size+1,0,none⟩ (.int .i64 7)).setCell ⟨w.heap.size+1,1,none⟩ (.slice none 0 0)).setCell ⟨w.heap.size+1,2,none⟩ (.int .i64 0)).setCell ⟨w.heap.size+1,3,none⟩ (.slice (some ⟨w5.heap.size,0,none⟩) 1 1)).setCell ⟨w.heap.size+1,4,none⟩ (.int .i64 0)).setCell ⟨w.heap.size+1,5,none⟩ (.int .i64 0)).setCell ⟨w.heap.size+1,6,none⟩ (.bool false)).setCell ⟨w.heap.size+1,7,none⟩ (.int .i64 ix)).setCell ⟨w.heap.size+1,8,none⟩ (.string nm)) (w.heap.size+1) 25 (Ta.mk 7 [] none 0 0 [Ta.mk k2 r2 ra2 rc2 a2 l2 sa2 sc2 n2 m2 z2 i2 s2] (some ⟨w5.heap.size,0,none⟩) 1 0 0 false ix nm).vals from (((((((((HC6.out.res.set_ 0 (.int .i64 7)).set_ 1 (.slice none 0 0)).set_ 2 (.int .i64 0)).set_ 3 (.slice (some ⟨w5.heap.size,0,none⟩) 1 1)).set_ 4 (.int .i64 0)).set_ 5 (.int .i64 0)).set_ 6 (.bool false)).set_ 7 (.int .i64 ix)).set_ 8 (.string nm)))) rfl ?_
 refine ⟨Ta.mk 7 [] none 0 0 [Ta.mk k2 r2 ra2 rc2 a2 l2 sa2 sc2 n2 m2 z2 i2 s2] (some ⟨w5.heap.size,0,none⟩) 1 0 0 false ix nm,rfl,(by rw [Ta.tr,←HTR5.out];rfl),(hRT).fr_kept (kept9 (w5.alloc (.cells #[.int .i64 k2,.slice ra2 r2.length rc2,.int .i64 a2,.slice sa2 l2.length sc2,.int .i64 n2,.int .i64 m2,.bool z2,.int .i64 i2,.string s2] 25)) (w.heap.size+1) 0 (.int .i64 7) (.slice none 0 0) (.int .i64 0) (.slice (some ⟨w5.heap.size,0,none⟩) 1 1) (.int .i64 0) (.int .i64 0) (.bool false) (.int .i64 ix) (.string nm)) (by simp) (by simp),zyH HC6.out.below (kept9 (w5.alloc (.cells #[.int .i64 k2,.slice ra2 r2.length rc2,.int .i64 a2,.slice sa2 l2.length sc2,.int .i64 n2,.int .i64 m2,.bool z2,.int .i64 i2,.string s2] 25)) (w.heap.size+1) 0 (.int .i64 7) (.slice none 0 0) (.int .i64 0) (.slice (some ⟨w5.heap.size,0,none⟩) 1 1) (.int .i64 0) (.int .i64 0) (.bool false) (.int .i64 ix) (.string nm)) (by intro b hb;simp at hb;omega) HC6.out.below.size⟩
theorem sizes_row (l:List Tr.Tr):sizes l≤size (row l):=by
 match l with
 | []=>simp [sizes]
 | [x]=>simp [sizes,row]
 | x :: y :: l=>rw [show row (x :: y :: l)=catT (x :: y :: l) from rfl,catT,size];omega
theorem size_eq (t:Tr.Tr):size t=sizes t.subs+1:=by cases t with | mk k r a l n m z i s=>rw [size];rfl
theorem sizes_ap (a b:List Tr.Tr):sizes (a++b)=sizes a+sizes b:=by
 induction a with
 | nil=>simp [sizes]
 | cons x a ih=>rw [zzi,sizes,sizes,ih];omega
theorem le_row {y:Tr.Tr} (h:allB y=true) (a b:List Tr.Tr):size y≤size (row (a++putT y++b)):=by
 by_cases k1:y.kind=1
 ·have h1:size y=1:=by
   cases kinds h with
   | empty=>rfl
   | cls r hr=>simp [Tr.kind] at k1
   | ass q hq=>simp [Tr.kind] at k1
   | cat l hc hs=>simp [catT,Tr.kind] at k1
   | alt l hc hs=>simp [altT,Tr.kind] at k1
   | rep x n m z hx h0 hb hm=>simp [repT,Tr.kind] at k1
   | group x i s hx h0 hb hm=>simp [groupT,Tr.kind] at k1
  rw [h1];exact size_pos _
 ·by_cases k4:y.kind=4
  ·have hp:putT y=y.subs:=by unfold putT;rw [if_neg k1,if_pos k4]
   have h2:=subs_pos h k4
   rw [hp]
   have hlen:2≤(a++y.subs++b).length:=by simp;omega
   have hrow:row (a++y.subs++b)=catT (a++y.subs++b):=by
    match hq:a++y.subs++b with
    | []=>rw [hq] at hlen;simp at hlen
    | [x]=>rw [hq] at hlen;simp at hlen
    | x :: z :: l=>rfl
   have h3:size (catT (a++y.subs++b))=sizes (a++y.subs++b)+1:=by rw [catT,size]
   rw [hrow,h3,sizes_ap,sizes_ap,size_eq y]
   omega
  ·have hp:putT y=[y]:=by unfold putT;rw [if_neg k1,if_neg k4]
   have h3:=sizes_row (a++putT y++b)
   rw [sizes_ap,sizes_ap,hp] at h3
   rw [hp]
   simp only [sizes] at h3
   omega
theorem le_alt (y:Tr.Tr) (a b:List Tr.Tr):size y≤size (altT (a++altPut y++b)):=by
 have h3:size (altT (a++altPut y++b))=sizes (a++altPut y++b)+1:=by rw [altT,size]
 rw [h3,sizes_ap,sizes_ap]
 unfold altPut
 by_cases k5:y.kind=5
 ·rw [if_pos k5,size_eq y];omega
 ·rw [if_neg k5];simp only [sizes];omega
theorem size_rep (s:Tr.Tr) (mn mx:Int) (z:Bool):size (repT s mn mx z)=size s+1:=by rw [repT,size];simp [sizes]
theorem putT_rep (s:Tr.Tr) (mn mx:Int) (z:Bool):putT (repT s mn mx z)=[repT s mn mx z]:=by simp [putT,repT,Tr.kind]
theorem le_unf {y:Tr.Tr} (h:allB y=true) {mn mx:Int} (z:Bool) (h0:0≤mn) (hm:(mx==0)=false) (hx:mx=-1∨mn≤mx):size y≤size (unfoldS y mn mx z):=by
 have hm0:mx≠0:=by simpa using hm
 unfold unfoldS
 by_cases c1:mx < 0∧mn=0
 ·rw [if_pos c1,size_rep];omega
 ·rw [if_neg c1]
  by_cases c2:mx < 0
  ·rw [if_pos c2,putT_rep]
   have h3:=sizes_row ((List.replicate (mn - 1).toNat (putT y)).flatten++[repT y 1 (-1) z])
   rw [sizes_ap] at h3
   simp only [sizes,size_rep] at h3
   omega
  ·rw [if_neg c2]
   by_cases c3:mn=0
   ·obtain ⟨n,hn⟩:∃ n,(mx - mn).toNat=n+1:=⟨(mx - mn).toNat - 1,by omega⟩
    rw [hn,optS,putT_rep]
    have h3:=sizes_row ((List.replicate mn.toNat (putT y)).flatten++[repT (row (putT y++putT (optS y z n))) 0 1 z])
    rw [sizes_ap] at h3
    simp only [sizes,size_rep] at h3
    have h4:=le_row h [] (putT (optS y z n))
    rw [zzn] at h4
    omega
   ·obtain ⟨n,hn⟩:∃ n,mn.toNat=n+1:=⟨mn.toNat - 1,by omega⟩
    have h4:=le_row h (repsT (putT y) n) (putT (optS y z (mx - mn).toNat))
    rw [←reps_succ,←hn] at h4
    exact h4
theorem le_puts {l:List Tr.Tr} (hal:∀ u∈l,allB u=true) {u:Tr.Tr} (hu:u∈l):size (simpleS u)≤size (row (putsT l)):=by
 obtain ⟨a,b,rfl⟩:=List.append_of_mem hu
 have e:putsT (a++u :: b)=putsT a++putT (simpleS u)++putsT b:=by
  rw [show a++u :: b=a++[u]++b from by simp,putsT_append,putsT_append,putsT_one]
 rw [e]
 exact le_row (simple_good u (hal u hu)).1 _ _
theorem le_alts {l:List Tr.Tr} {u:Tr.Tr} (hu:u∈l):size (simpleS u)≤size (altT (altsT l)):=by
 obtain ⟨a,b,rfl⟩:=List.append_of_mem hu
 have e:altsT (a++u :: b)=altsT a++altPut (simpleS u)++altsT b:=by
  rw [show a++u :: b=a++[u]++b from by simp,altsT_append,altsT_append,altsT_one]
 rw [e]
 exact le_alt _ _ _
theorem alts_len (l:List Tr.Tr):(altsT l).length≤size (altT (altsT l)):=by
 have h3:size (altT (altsT l))=sizes (altsT l)+1:=by rw [altT,size]
 have:=len_sizes (altsT l)
 omega
theorem build_any:∀ t:Ta,BD t:=by
 intro t
 induction t using Ta.ind with
 | h t ih =>
  cases t with
  | mk k r ra rc ast l sa sc mn mx z ix nm =>
  intro S w bc ec h hS hcel hal0 hsz0
  have hal:∀ u∈l,allB u.tr=true:=fun u hu=>((allB_iff _).1 hal0).2 u.tr (by rw [Ta.tr_subs];exact zzk hu)
  have hih:∀ u∈l,BD u:=fun u hu=>ih u hu
  have hmem:∀ u∈l,u.tr∈trs l:=fun u hu=>by rw [trs_map];exact zzk hu
  have halt:∀ u∈trs l,allB u=true:=fun u hu=>by rw [trs_map] at hu;obtain ⟨x,hx,rfl⟩:=zzp.1 hu;exact hal x hx
  have hlen:=trs_length l
  simp only [Ta.tr] at hal0
  have htr:(Ta.mk k r ra rc ast l sa sc mn mx z ix nm).tr=.mk k r ast (trs l) mn mx z ix nm:=by rw [Ta.tr]
  rw [htr] at hsz0 ⊢
  clear ih
  rw [simpleS,simplesS_map] at hsz0 ⊢
  by_cases k7:k=7
  ·rw [if_pos k7] at hsz0 ⊢
   have hl1:l.length=1:=by
    subst k7
    generalize trs l=L at *
    cases kinds hal0 with
    | group x i s hx h0 hb hm=>simpa using hlen.symm
   have hsz:∀ u∈l,size (simpleS u.tr)≤200000:=fun u hu=>by
    match l,hl1,hu with
    | [x],_,hu =>
     simp at hu;subst hu
     simp only [trs,zzS,List.headD_cons] at hsz0
     rw [groupT,size] at hsz0
     simp only [sizes] at hsz0
     omega
   exact bd_group k r ra rc ast l sa sc mn mx z ix nm S w bc ec h hS hcel (by simpa using k7) hl1 hih hal hsz
  ·rw [if_neg k7] at hsz0 ⊢
   have k7':(k==7)=false:=by simpa using k7
   by_cases k4:k=4
   ·rw [if_pos k4] at hsz0 ⊢
    have hsz:∀ u∈l,size (simpleS u.tr)≤200000:=fun u hu=>zzU (le_puts halt (hmem u hu)) hsz0
    exact bd_cat k r ra rc ast l sa sc mn mx z ix nm S w bc ec h hS hcel k7' (by simpa using k4) hih hal hsz (zzU (row_len (putsT (trs l))) hsz0)
   ·rw [if_neg k4] at hsz0 ⊢
    have k4':(k==4)=false:=by simpa using k4
    by_cases k5:k=5
    ·rw [if_pos k5] at hsz0 ⊢
     have hsz:∀ u∈l,size (simpleS u.tr)≤200000:=fun u hu=>zzU (le_alts (hmem u hu)) hsz0
     exact bd_alt k r ra rc ast l sa sc mn mx z ix nm S w bc ec h hS hcel k7' k4' (by simpa using k5) hih hal hsz (zzU (alts_len (trs l)) hsz0)
    ·rw [if_neg k5] at hsz0 ⊢
     have k5':(k==5)=false:=by simpa using k5
     by_cases k6:k=6
     ·rw [if_pos k6] at hsz0 ⊢
      have hrep:l.length=1∧0≤mn∧mn≤1000∧(mx=-1∨(mn≤mx∧mx≤1000)):=by
       subst k6
       generalize trs l=L at *
       cases kinds hal0 with
       | rep x n m z hx h0 hb hm=>exact ⟨by simpa using hlen.symm,h0,hb,hm⟩
      obtain ⟨hl1,h0,h1,hx⟩:=hrep
      by_cases hm:mx=0
      ·rw [if_pos hm]
       exact bd_zero k r ra rc ast l sa sc mn mx z ix nm S w bc ec h hS hcel k7' k4' k5' (by simpa using k6) (by simpa using hm)
      ·rw [if_neg hm] at hsz0 ⊢
       have hsz:∀ u∈l,size (simpleS u.tr)≤200000:=fun u hu=>by
        match l,hl1,hu with
        | [x],_,hu =>
         simp at hu;subst hu
         simp only [trs,zzS,List.headD_cons] at hsz0
         exact zzU (le_unf (simple_good _ (hal u (by simp))).1 z h0 (by simpa using hm) (by omega)) hsz0
       exact bd_rep k r ra rc ast l sa sc mn mx z ix nm S w bc ec h hS hcel k7' k4' k5' (by simpa using k6) (by simpa using hm) hl1 h0 h1 (by omega) hih hal hsz hsz0
     ·rw [if_neg k6]
      have:=bd_leaf k r ra rc ast l sa sc mn mx z ix nm S w bc ec h hS hcel k7' k4' k5' (by simpa using k6)
      rw [htr] at this
      exact this
theorem simple_any (t:Ta) (S:Nat→Prop) (w:World) (h:RT w S t) (hS:∀ b,S b→b < w.heap.size) (hal:allB t.tr=true) (hsz:size (simpleS t.tr)≤200000) :
  Calls Tryz.prog 43 #[t.val] w fun e w'=>∃ u:Ta,e=.returned u.val∧u.tr=simpleS t.tr∧RT w' (Fr w.heap.size [] w') u∧Below w.heap.size w w':=by
 obtain ⟨st,hst⟩:∃ q,q=simpleS t.tr:=⟨_,rfl⟩
 cases t with
 | mk k r ra rc ast l sa sc mn mx z ix nm =>
 have e2:((w.alloc (.cells #[.int .i64 k,.slice ra r.length rc,.int .i64 ast,.slice sa l.length sc,.int .i64 mn,.int .i64 mx,.bool z,.int .i64 ix,.string nm] 25)).alloc (.cells #[.int .i64 0,.slice none 0 0,.int .i64 0,.slice none 0 0,.int .i64 0,.int .i64 0,.bool false,.int .i64 0,.string ⟨#[]⟩] 25)).heap.size=w.heap.size+1+1:=by simp
 have hcs2:CS w [.int .i64 k,.slice ra r.length rc,.int .i64 ast,.slice sa l.length sc,.int .i64 mn,.int .i64 mx,.bool z,.int .i64 ix,.string nm] ((w.alloc (.cells #[.int .i64 k,.slice ra r.length rc,.int .i64 ast,.slice sa l.length sc,.int .i64 mn,.int .i64 mx,.bool z,.int .i64 ix,.string nm] 25)).alloc (.cells #[.int .i64 0,.slice none 0 0,.int .i64 0,.slice none 0 0,.int .i64 0,.int .i64 0,.bool false,.int .i64 0,.string ⟨#[]⟩] 25)):=⟨two_below w _ _,(zyI w 25 [.int .i64 k,.slice ra r.length rc,.int .i64 ast,.slice sa l.length sc,.int .i64 mn,.int .i64 mx,.bool z,.int .i64 ix,.string nm]).alloc _,two_blk w _ 25 [.int .i64 0,.slice none 0 0,.int .i64 0,.slice none 0 0,.int .i64 0,.int .i64 0,.bool false,.int .i64 0,.string ⟨#[]⟩]⟩
 have hb4:Below ((w.alloc (.cells #[.int .i64 k,.slice ra r.length rc,.int .i64 ast,.slice sa l.length sc,.int .i64 mn,.int .i64 mx,.bool z,.int .i64 ix,.string nm] 25)).alloc (.cells #[.int .i64 0,.slice none 0 0,.int .i64 0,.slice none 0 0,.int .i64 0,.int .i64 0,.bool false,.int .i64 0,.string ⟨#[]⟩] 25)).heap.size ((w.alloc (.cells #[.int .i64 k,.slice ra r.length rc,.int .i64 ast,.slice sa l.length sc,.int .i64 mn,.int .i64 mx,.bool z,.int .i64 ix,.string nm] 25)).alloc (.cells #[.int .i64 0,.slice none 0 0,.int .i64 0,.slice none 0 0,.int .i64 0,.int .i64 0,.bool false,.int .i64 0,.string ⟨#[]⟩] 25)) ((((w.alloc (.cells #[.int .i64 k,.slice ra r.length rc,.int .i64 ast,.slice sa l.length sc,.int .i64 mn,.int .i64 mx,.bool z,.int .i64 ix,.string nm] 25)).alloc (.cells #[.int .i64 0,.slice none 0 0,.int .i64 0,.slice none 0 0,.int .i64 0,.int .i64 0,.bool false,.int .i64 0,.string ⟨#[]⟩] 25)).alloc (.cells #[(.func (Fn.func 71) #[] #[.pointer (some ⟨w.heap.size+1+1,0,none⟩),.pointer (some ⟨w.heap.size+1+1+1,0,none⟩)])] 95)).alloc (.cells #[(.func (Fn.func 70) #[] #[.pointer (some ⟨w.heap.size+1+1,0,none⟩)])] 137)):=((zzb _ _).alloc (zzF _) _).alloc (by simp) _
 have hcs:=hcs2.bel hb4
 have hcel:CEL (w.heap.size+1+1) (w.heap.size+1+1+1) ((((w.alloc (.cells #[.int .i64 k,.slice ra r.length rc,.int .i64 ast,.slice sa l.length sc,.int .i64 mn,.int .i64 mx,.bool z,.int .i64 ix,.string nm] 25)).alloc (.cells #[.int .i64 0,.slice none 0 0,.int .i64 0,.slice none 0 0,.int .i64 0,.int .i64 0,.bool false,.int .i64 0,.string ⟨#[]⟩] 25)).alloc (.cells #[(.func (Fn.func 71) #[] #[.pointer (some ⟨w.heap.size+1+1,0,none⟩),.pointer (some ⟨w.heap.size+1+1+1,0,none⟩)])] 95)).alloc (.cells #[(.func (Fn.func 70) #[] #[.pointer (some ⟨w.heap.size+1+1,0,none⟩)])] 137)):=by
  have h1:=zyI ((w.alloc (.cells #[.int .i64 k,.slice ra r.length rc,.int .i64 ast,.slice sa l.length sc,.int .i64 mn,.int .i64 mx,.bool z,.int .i64 ix,.string nm] 25)).alloc (.cells #[.int .i64 0,.slice none 0 0,.int .i64 0,.slice none 0 0,.int .i64 0,.int .i64 0,.bool false,.int .i64 0,.string ⟨#[]⟩] 25)) 95 [(.func (Fn.func 71) #[] #[.pointer (some ⟨w.heap.size+1+1,0,none⟩),.pointer (some ⟨w.heap.size+1+1+1,0,none⟩)])]
  rw [e2] at h1
  have h2:=zyI (((w.alloc (.cells #[.int .i64 k,.slice ra r.length rc,.int .i64 ast,.slice sa l.length sc,.int .i64 mn,.int .i64 mx,.bool z,.int .i64 ix,.string nm] 25)).alloc (.cells #[.int .i64 0,.slice none 0 0,.int .i64 0,.slice none 0 0,.int .i64 0,.int .i64 0,.bool false,.int .i64 0,.string ⟨#[]⟩] 25)).alloc (.cells #[(.func (Fn.func 71) #[] #[.pointer (some ⟨w.heap.size+1+1,0,none⟩),.pointer (some ⟨w.heap.size+1+1+1,0,none⟩)])] 95)) 137 [(.func (Fn.func 70) #[] #[.pointer (some ⟨w.heap.size+1+1,0,none⟩)])]
  have e3:(((w.alloc (.cells #[.int .i64 k,.slice ra r.length rc,.int .i64 ast,.slice sa l.length sc,.int .i64 mn,.int .i64 mx,.bool z,.int .i64 ix,.string nm] 25)).alloc (.cells #[.int .i64 0,.slice none 0 0,.int .i64 0,.slice none 0 0,.int .i64 0,.int .i64 0,.bool false,.int .i64 0,.string ⟨#[]⟩] 25)).alloc (.cells #[(.func (Fn.func 71) #[] #[.pointer (some ⟨w.heap.size+1+1,0,none⟩),.pointer (some ⟨w.heap.size+1+1+1,0,none⟩)])] 95)).heap.size=w.heap.size+1+1+1:=by simp
  rw [e3] at h2
  exact ⟨(h1.alloc _).cell 0,h2.cell 0⟩
 have HIN:=zzA (build_any (Ta.mk k r ra rc ast l sa sc mn mx z ix nm) S ((((w.alloc (.cells #[.int .i64 k,.slice ra r.length rc,.int .i64 ast,.slice sa l.length sc,.int .i64 mn,.int .i64 mx,.bool z,.int .i64 ix,.string nm] 25)).alloc (.cells #[.int .i64 0,.slice none 0 0,.int .i64 0,.slice none 0 0,.int .i64 0,.int .i64 0,.bool false,.int .i64 0,.string ⟨#[]⟩] 25)).alloc (.cells #[(.func (Fn.func 71) #[] #[.pointer (some ⟨w.heap.size+1+1,0,none⟩),.pointer (some ⟨w.heap.size+1+1+1,0,none⟩)])] 95)).alloc (.cells #[(.func (Fn.func 70) #[] #[.pointer (some ⟨w.heap.size+1+1,0,none⟩)])] 137)) _ _ (h.below hS hcs.below) (fun b hb=>zzQ (hS b hb) hcs.below.size) hcel hal hsz)
 rw [←hst] at HIN ⊢
 have HCS:=zzA hcs
 clear h hS hcs hcs2 hb4 hcel hal hsz hst e2
 simp only [Ta.val,Ta.vals] at HIN ⊢
 go_enter Tryz.func43,Tryz.ntmps43
 go_wp2_with fail
 generalize ((((w.alloc (.cells #[.int .i64 k,.slice ra r.length rc,.int .i64 ast,.slice sa l.length sc,.int .i64 mn,.int .i64 mx,.bool z,.int .i64 ix,.string nm] 25)).alloc (.cells #[.int .i64 0,.slice none 0 0,.int .i64 0,.slice none 0 0,.int .i64 0,.int .i64 0,.bool false,.int .i64 0,.string ⟨#[]⟩] 25)).alloc (.cells #[(.func (Fn.func 71) #[] #[.pointer (some ⟨w.heap.size+1+1,0,none⟩),.pointer (some ⟨w.heap.size+1+1+1,0,none⟩)])] 95)).alloc (.cells #[(.func (Fn.func 70) #[] #[.pointer (some ⟨w.heap.size+1+1,0,none⟩)])] 137))=w2 at *
 refine HIN.out.mono ?_
 rintro e w5 ⟨u5,rfl,htr5,hrt5,hb5⟩
 have HC5:=zzA (HCS.out.bel hb5)
 have HRT5:=zzA (hrt5.fr_in (B:=w.heap.size) (L:=[w.heap.size+1]) (by have:=HCS.out.below.size;omega) (by intro x hx;simp at hx;have:=HCS.out.res.lt;omega))
 have HTR5:=zzA htr5
 clear htr5 hrt5 hb5 HIN
 obtain ⟨k2,r2,ra2,rc2,a2,l2,sa2,sc2,n2,m2,z2,i2,s2⟩:=u5
 obtain ⟨q0,q1,q2,q3,q4,q5,q6,q7,q8⟩:=bc9 (HC5.out.res)
 have fz0:=HC5.out.res.frozen 0
 have fz1:=HC5.out.res.frozen 1
 have fz2:=HC5.out.res.frozen 2
 have fz3:=HC5.out.res.frozen 3
 have fz4:=HC5.out.res.frozen 4
 have fz5:=HC5.out.res.frozen 5
 have fz6:=HC5.out.res.frozen 6
 have fz7:=HC5.out.res.frozen 7
 have fz8:=HC5.out.res.frozen 8
 have fz9:=HC5.out.res.lt
 simp only []
 go_wp2_with fail
 refine zzm (node_ret rfl _ _ (w.heap.size+1) (Ta.mk k2 r2 ra2 rc2 a2 l2 sa2 sc2 n2 m2 z2 i2 s2) rfl (show Blk (((((((((w5.setCell ⟨w.heap.size+1,0,none⟩ (.int .i64 k2)).setCell ⟨w.heap.size+1,1,none⟩ (.slice ra2 r2.length rc2)).setCell ⟨w.heap.size+1,2,none⟩ (.int .i64 a2)).setCell ⟨w.heap.size+1,3,none⟩ (.slice sa2 l2.length sc2)).setCell ⟨w.heap.size+1,4,none⟩ (.int .i64 n2)).setCell ⟨w.heap.size+1,5,none⟩ (.int .i64 m2)).setCell ⟨w.heap.size+1,6,none⟩ (.bool z2)).setCell ⟨w.heap.size+1,7,none⟩ (.int .i64 i2)).setCell ⟨w.heap.size+1,8,none⟩ (.string s2)) (w.heap.size+1) 25 (Ta.mk k2 r2 ra2 rc2 a2 l2 sa2 sc2 n2 m2 z2 i2 s2).vals from (((((((((HC5.out.res.set_ 0 (.int .i64 k2)).set_ 1 (.slice ra2 r2.length rc2)).set_ 2 (.int .i64 a2)).set_ 3 (.slice sa2 l2.length sc2)).set_ 4 (.int .i64 n2)).set_ 5 (.int .i64 m2)).set_ 6 (.bool z2)).set_ 7 (.int .i64 i2)).set_ 8 (.string s2)))) rfl ?_
 refine ⟨Ta.mk k2 r2 ra2 rc2 a2 l2 sa2 sc2 n2 m2 z2 i2 s2,rfl,HTR5.out,(HRT5.out).fr_kept (kept9 w5 (w.heap.size+1) 0 (.int .i64 k2) (.slice ra2 r2.length rc2) (.int .i64 a2) (.slice sa2 l2.length sc2) (.int .i64 n2) (.int .i64 m2) (.bool z2) (.int .i64 i2) (.string s2)) (by simp) (by simp),zyH HC5.out.below (kept9 w5 (w.heap.size+1) 0 (.int .i64 k2) (.slice ra2 r2.length rc2) (.int .i64 a2) (.slice sa2 l2.length sc2) (.int .i64 n2) (.int .i64 m2) (.bool z2) (.int .i64 i2) (.string s2)) (by intro b hb;simp at hb;omega) HC5.out.below.size⟩
end Go.Proofs.YtgkclnmmjedmkaaGreat
