/- meaning.unfolded: so often or more. -/
import Derived.Test.YtgkclnmmjedmkaaGreatP15
set_option maxRecDepth 100000
set_option maxHeartbeats 8000000
namespace Go.Proofs.YtgkclnmmjedmkaaGreat
open Go.RowKit Tr
theorem unf_plus (r:List (Int × Int)) (ra:Option Addr) (rc:Nat) (ast:Int) (x:Ta) (sa:Option Addr) (sc:Nat) (mn mx:Int) (z:Bool) (ix:Int) (nm:ByteArray) (hx:mx=-1) (hn:1≤mn) (ih:UfOk x):UfOk (Ta.mk 6 r ra rc ast [x] sa sc mn mx z ix nm):=by
 subst hx
 obtain ⟨m0,rfl⟩:∃ m0:Nat,mn=(m0:Int)+1:=⟨(mn - 1).toNat,by omega⟩
 have hm1:((m0:Int)+1==0)=false:=zzh.2 (by omega)
 have hm2:(m0:Int)+1 - 1=(m0:Int):=by omega
 intro S w h hall hS
 obtain ⟨i0,hi,hz0,hz1,hz2⟩:=info_parts node_info
 obtain ⟨-,hN,hL⟩:=h.parts
 obtain ⟨hnb,hsb⟩:=(allB_iff _).1 hall
 rw [Ta.tr_subs] at hsb
 have hax:allB x.tr=true:=hsb _ (by simp [Ta.subs])
 have hbd:0≤(((m0:Int)+1):Int)∧(((m0:Int)+1):Int)≤1000∧(((-1):Int)=-1∨(((m0:Int)+1):Int)≤(-1)∧((-1):Int)≤1000):=by
  unfold Ta.tr nodeB nodeF at hnb
  simp only [reduceIte,Int.reduceEq,zzc,Bool.or_eq_true,zzg,zyE] at hnb
  first | exact ⟨by omega,by omega,.inl rfl⟩ | exact ⟨hnb.2.2.1,hnb.2.2.2.1,hnb.2.2.2.2⟩
 obtain ⟨b,off,rfl,hSb,_⟩:=hN.2.2.2.2 (by simp)
 have hcx:∀ j,j < 9→w.cell? ⟨b,off+j,none⟩=x.vals[j]?:=fun j hj=>by
  have:=RdA.node hN (l:=[x]) (j:=0) (t:=x) rfl hj
  rwa [Nat.zero_mul,zzw] at this
 have hxr:RT w S x:=hL x (by simp)
 obtain ⟨hb1,hs1,hbk,hro⟩:=rep_start S w r ra rc ast ((m0:Int)+1) (-1) z ix nm b off sc x hS hSb hcx hxr
 obtain ⟨U0,hU0⟩:∃ U0,U0=unfS (Ta.mk 6 r ra rc ast [x] (some ⟨b,off,none⟩) sc ((m0:Int)+1) (-1) z ix nm).tr:=⟨_,rfl⟩
 rw [←hU0]
 have HU:=zzA (show U0=repU (unfS x.tr) ((m0:Int)+1) (-1) z from by rw [hU0,Ta.tr,unfS,if_neg (by simp)];rfl)
 have HAX:=zzA hax
 have IH:=zzA ih
 have HS:=zzA hS
 have HB1:=zzA hb1
 have HRO:=zzA hro
 have HBK:=zzA hbk
 have q4:((((w.alloc (.cells #[.int .i64 6,.slice ra r.length rc,.int .i64 ast,.slice (some ⟨b,off,none⟩) 1 sc,.int .i64 ((m0:Int)+1),.int .i64 (-1),.bool z,.int .i64 ix,.string nm] 25)).alloc (.cells #[(.func (Fn.func 55) #[] #[.pointer (some ⟨w.heap.size,0,none⟩)])] 114)).alloc (.cells #[.int .i64 4,.slice none 0 0,.int .i64 0,.int .i64 0,.bool false,.slice none 0 0] 110)).alloc (.cells #[.pointer (some ⟨w.heap.size+2,0,none⟩)] 69)).cell? ⟨w.heap.size,4,none⟩=some (.int .i64 ((m0:Int)+1)):=hbk.cell 4
 have q5:((((w.alloc (.cells #[.int .i64 6,.slice ra r.length rc,.int .i64 ast,.slice (some ⟨b,off,none⟩) 1 sc,.int .i64 ((m0:Int)+1),.int .i64 (-1),.bool z,.int .i64 ix,.string nm] 25)).alloc (.cells #[(.func (Fn.func 55) #[] #[.pointer (some ⟨w.heap.size,0,none⟩)])] 114)).alloc (.cells #[.int .i64 4,.slice none 0 0,.int .i64 0,.int .i64 0,.bool false,.slice none 0 0] 110)).alloc (.cells #[.pointer (some ⟨w.heap.size+2,0,none⟩)] 69)).cell? ⟨w.heap.size,5,none⟩=some (.int .i64 (-1)):=hbk.cell 5
 have q6:((((w.alloc (.cells #[.int .i64 6,.slice ra r.length rc,.int .i64 ast,.slice (some ⟨b,off,none⟩) 1 sc,.int .i64 ((m0:Int)+1),.int .i64 (-1),.bool z,.int .i64 ix,.string nm] 25)).alloc (.cells #[(.func (Fn.func 55) #[] #[.pointer (some ⟨w.heap.size,0,none⟩)])] 114)).alloc (.cells #[.int .i64 4,.slice none 0 0,.int .i64 0,.int .i64 0,.bool false,.slice none 0 0] 110)).alloc (.cells #[.pointer (some ⟨w.heap.size+2,0,none⟩)] 69)).cell? ⟨w.heap.size,6,none⟩=some (.bool z):=hbk.cell 6
 have ea1:(w.alloc (.cells #[.int .i64 6,.slice ra r.length rc,.int .i64 ast,.slice (some ⟨b,off,none⟩) 1 sc,.int .i64 ((m0:Int)+1),.int .i64 (-1),.bool z,.int .i64 ix,.string nm] 25)).heap.size=w.heap.size+1:=by simp
 have ea3:(((w.alloc (.cells #[.int .i64 6,.slice ra r.length rc,.int .i64 ast,.slice (some ⟨b,off,none⟩) 1 sc,.int .i64 ((m0:Int)+1),.int .i64 (-1),.bool z,.int .i64 ix,.string nm] 25)).alloc (.cells #[(.func (Fn.func 55) #[] #[.pointer (some ⟨w.heap.size,0,none⟩)])] 114)).alloc (.cells #[.int .i64 4,.slice none 0 0,.int .i64 0,.int .i64 0,.bool false,.slice none 0 0] 110)).heap.size=w.heap.size+3:=by simp
 have hset1:=alloc_set (w.alloc (.cells #[.int .i64 6,.slice ra r.length rc,.int .i64 ast,.slice (some ⟨b,off,none⟩) 1 sc,.int .i64 ((m0:Int)+1),.int .i64 (-1),.bool z,.int .i64 ix,.string nm] 25)) .nilFunc (.func (Fn.func 55) #[] #[.pointer (some ⟨w.heap.size,0,none⟩)]) 114 (w.heap.size+1) ea1.symm
 have hset2:=alloc_set (((w.alloc (.cells #[.int .i64 6,.slice ra r.length rc,.int .i64 ast,.slice (some ⟨b,off,none⟩) 1 sc,.int .i64 ((m0:Int)+1),.int .i64 (-1),.bool z,.int .i64 ix,.string nm] 25)).alloc (.cells #[(.func (Fn.func 55) #[] #[.pointer (some ⟨w.heap.size,0,none⟩)])] 114)).alloc (.cells #[.int .i64 4,.slice none 0 0,.int .i64 0,.int .i64 0,.bool false,.slice none 0 0] 110)) (.pointer none) (.pointer (some ⟨w.heap.size+2,0,none⟩)) 69 (w.heap.size+3) ea3.symm
 have hz1a:((w.alloc (.cells #[.int .i64 6,.slice ra r.length rc,.int .i64 ast,.slice (some ⟨b,off,none⟩) 1 sc,.int .i64 ((m0:Int)+1),.int .i64 (-1),.bool z,.int .i64 ix,.string nm] 25)).alloc (.cells #[.nilFunc] 114)).cell? ⟨w.heap.size+1,0,none⟩=some .nilFunc:=by rw [←ea1];exact (zyI (w.alloc (.cells #[.int .i64 6,.slice ra r.length rc,.int .i64 ast,.slice (some ⟨b,off,none⟩) 1 sc,.int .i64 ((m0:Int)+1),.int .i64 (-1),.bool z,.int .i64 ix,.string nm] 25)) 114 [.nilFunc]).cell 0
 have hz1b:((w.alloc (.cells #[.int .i64 6,.slice ra r.length rc,.int .i64 ast,.slice (some ⟨b,off,none⟩) 1 sc,.int .i64 ((m0:Int)+1),.int .i64 (-1),.bool z,.int .i64 ix,.string nm] 25)).alloc (.cells #[.nilFunc] 114)).frozen? ⟨w.heap.size+1,0,none⟩=false:=by rw [←ea1];exact (zyI (w.alloc (.cells #[.int .i64 6,.slice ra r.length rc,.int .i64 ast,.slice (some ⟨b,off,none⟩) 1 sc,.int .i64 ((m0:Int)+1),.int .i64 (-1),.bool z,.int .i64 ix,.string nm] 25)) 114 [.nilFunc]).frozen 0
 have hz2a:((((w.alloc (.cells #[.int .i64 6,.slice ra r.length rc,.int .i64 ast,.slice (some ⟨b,off,none⟩) 1 sc,.int .i64 ((m0:Int)+1),.int .i64 (-1),.bool z,.int .i64 ix,.string nm] 25)).alloc (.cells #[(.func (Fn.func 55) #[] #[.pointer (some ⟨w.heap.size,0,none⟩)])] 114)).alloc (.cells #[.int .i64 4,.slice none 0 0,.int .i64 0,.int .i64 0,.bool false,.slice none 0 0] 110)).alloc (.cells #[.pointer none] 69)).cell? ⟨w.heap.size+3,0,none⟩=some (.pointer none):=by rw [←ea3];exact (zyI (((w.alloc (.cells #[.int .i64 6,.slice ra r.length rc,.int .i64 ast,.slice (some ⟨b,off,none⟩) 1 sc,.int .i64 ((m0:Int)+1),.int .i64 (-1),.bool z,.int .i64 ix,.string nm] 25)).alloc (.cells #[(.func (Fn.func 55) #[] #[.pointer (some ⟨w.heap.size,0,none⟩)])] 114)).alloc (.cells #[.int .i64 4,.slice none 0 0,.int .i64 0,.int .i64 0,.bool false,.slice none 0 0] 110)) 69 [.pointer none]).cell 0
 have hz2b:((((w.alloc (.cells #[.int .i64 6,.slice ra r.length rc,.int .i64 ast,.slice (some ⟨b,off,none⟩) 1 sc,.int .i64 ((m0:Int)+1),.int .i64 (-1),.bool z,.int .i64 ix,.string nm] 25)).alloc (.cells #[(.func (Fn.func 55) #[] #[.pointer (some ⟨w.heap.size,0,none⟩)])] 114)).alloc (.cells #[.int .i64 4,.slice none 0 0,.int .i64 0,.int .i64 0,.bool false,.slice none 0 0] 110)).alloc (.cells #[.pointer none] 69)).frozen? ⟨w.heap.size+3,0,none⟩=false:=by rw [←ea3];exact (zyI (((w.alloc (.cells #[.int .i64 6,.slice ra r.length rc,.int .i64 ast,.slice (some ⟨b,off,none⟩) 1 sc,.int .i64 ((m0:Int)+1),.int .i64 (-1),.bool z,.int .i64 ix,.string nm] 25)).alloc (.cells #[(.func (Fn.func 55) #[] #[.pointer (some ⟨w.heap.size,0,none⟩)])] 114)).alloc (.cells #[.int .i64 4,.slice none 0 0,.int .i64 0,.int .i64 0,.bool false,.slice none 0 0] 110)) 69 [.pointer none]).frozen 0
 have qx:((((w.alloc (.cells #[.int .i64 6,.slice ra r.length rc,.int .i64 ast,.slice (some ⟨b,off,none⟩) 1 sc,.int .i64 ((m0:Int)+1),.int .i64 (-1),.bool z,.int .i64 ix,.string nm] 25)).alloc (.cells #[(.func (Fn.func 55) #[] #[.pointer (some ⟨w.heap.size,0,none⟩)])] 114)).alloc (.cells #[.int .i64 4,.slice none 0 0,.int .i64 0,.int .i64 0,.bool false,.slice none 0 0] 110)).alloc (.cells #[.pointer (some ⟨w.heap.size+2,0,none⟩)] 69)).cell? ⟨w.heap.size+1,0,none⟩=some (.func (Fn.func 55) #[] #[.pointer (some ⟨w.heap.size,0,none⟩)]):=hro.cx
 have qo:((((w.alloc (.cells #[.int .i64 6,.slice ra r.length rc,.int .i64 ast,.slice (some ⟨b,off,none⟩) 1 sc,.int .i64 ((m0:Int)+1),.int .i64 (-1),.bool z,.int .i64 ix,.string nm] 25)).alloc (.cells #[(.func (Fn.func 55) #[] #[.pointer (some ⟨w.heap.size,0,none⟩)])] 114)).alloc (.cells #[.int .i64 4,.slice none 0 0,.int .i64 0,.int .i64 0,.bool false,.slice none 0 0] 110)).alloc (.cells #[.pointer (some ⟨w.heap.size+2,0,none⟩)] 69)).cell? ⟨w.heap.size+3,0,none⟩=some (.pointer (some ⟨w.heap.size+2,0,none⟩)):=hro.co
 clear hU0 hsb hnb hall hL hS h hN hxr hcx hb1 hro hbk hax ih
 have hwm:IntKind.i64.wrap ((m0:Int)+1 - 1)=(m0:Int):=by rw [zzx];omega
 have hwm2:IntKind.i64.wrap (m0:Int)=(m0:Int):=by rw [zzx];omega
 simp only [Ta.val,Ta.vals,List.length_singleton]
 go_enter Tryz.func29,Tryz.ntmps29
 go_wp2_with fail
 generalize ((((w.alloc (.cells #[.int .i64 6,.slice ra r.length rc,.int .i64 ast,.slice (some ⟨b,off,none⟩) 1 sc,.int .i64 ((m0:Int)+1),.int .i64 (-1),.bool z,.int .i64 ix,.string nm] 25)).alloc (.cells #[(.func (Fn.func 55) #[] #[.pointer (some ⟨w.heap.size,0,none⟩)])] 114)).alloc (.cells #[.int .i64 4,.slice none 0 0,.int .i64 0,.int .i64 0,.bool false,.slice none 0 0] 110)).alloc (.cells #[.pointer (some ⟨w.heap.size+2,0,none⟩)] 69))=w1 at *
 have hmb:m0≤1000:=by omega
 clear hset1 hset2 hz1a hz1b hz2a hz2b ea1 ea3
 refine (uftimes_any x IH.out HAX.out S w1 w.heap.size (w.heap.size+1) (w.heap.size+3) (w.heap.size+2) b off sc m0 w1 (.slice none 0 0) [] HRO.out (by simp;omega)).mono ?_
 rintro e w2 ⟨rfl,v',us,hr,hsh⟩
 rw [zzn] at hr
 have hul:us.length=m0:=by have:=congrArg List.length hsh;rwa [shUs_map,zzP,zyC] at this
 obtain ⟨A,c,rfl⟩:=own_shape hr.row.own
 have hne:=hr.ne
 obtain ⟨vs,hvs⟩:∃ vs,vs=us:=⟨_,rfl⟩
 rw [←hvs] at hr hsh hul
 clear hvs
 have hvl:vs.length+1≤1048576:=by omega
 have hr2:RepOk w1 S w.heap.size (w.heap.size+1) (w.heap.size+3) (w.heap.size+2) b off sc x w2.drew (.slice A vs.length c) vs:=hr.later (bdrewN (zzb _ _) 1)
 have HR2:=zzA hr2
 have HXX:=zzA (ufx_any x IH.out HAX.out S w.heap.size b off sc w2.drew hr2.x)
 have r6:w2.drew.cell? ⟨w.heap.size,6,none⟩=some (.bool z):=(hr2.kept.cell (p:=⟨w.heap.size,6,none⟩) hne.2.2.2.1 (by simp)).trans q6
 have qx2:=hr2.cx
 have fao:w2.drew.cell? ⟨w.heap.size+3,0,none⟩=some (.pointer (some ⟨w.heap.size+2,0,none⟩)):=hr2.co;have fan:w2.drew.cell? ⟨w.heap.size+2,5,none⟩=some (.slice A vs.length c):=hr2.row.blk.cell 5;
 have HSH:=zzA hsh
 have HNE:=zzA hne
 clear hr hr2 hsh hul q4 q5 q6 qx qo hne
 simp only []
 go_wp2_with fail
 refine wp_mono (Q:=fun e a' w'=>e=.normal∧RepR w1 S w.heap.size (w.heap.size+1) (w.heap.size+3) (w.heap.size+2) b off sc x (List.replicate m0 (unfS x.tr)++[loopU (-3) z (unfS x.tr)]) a' w') ?_ ?_
 ·refine wp_region_noPanic ?_
  refine wp_region_held_drew (S:=(fun u=>u.cell? ⟨w.heap.size+1,0,none⟩=some (.func (Fn.func 55) #[] #[.pointer (some ⟨w.heap.size,0,none⟩)])∧u.cell? ⟨w.heap.size+3,0,none⟩=some (.pointer (some ⟨w.heap.size+2,0,none⟩)))) (by kernel_rfl) ⟨qx2,fao⟩ (fun hS0=>?_)
  refine wpAnyH_take (i:=0) (oi:={ dst:=some 111,op:=Op.load 69 (Operand.tmp 8),type:=69,pos:= "meaning.go:52",after:=#[],guard:=none }) (v:=?_) rfl (by kernel_rfl) (by kernel_rfl) (by kernel_rfl) (fun _ _ _ h=>h) (Or.inl ⟨by rfl,?_⟩) (by assumption) ?_
  rotate_left
  ·intro w hSw;(try dsimp only at hSw);go_simp;(try with_reducible rfl)
  (try simp only [Act.put,zzB,zzD,zzC])
  refine wpAnyH_take (i:=1) (oi:={ dst:=some 112,op:=Op.load 69 (Operand.tmp 8),type:=69,pos:= "meaning.go:52",after:=#[],guard:=none }) (v:=?_) rfl (by kernel_rfl) (by kernel_rfl) (by kernel_rfl) (fun _ _ _ h=>h) (Or.inl ⟨by rfl,?_⟩) (by assumption) ?_
  rotate_left
  ·intro w hSw;(try dsimp only at hSw);go_simp;(try with_reducible rfl)
  (try simp only [Act.put,zzB,zzD,zzC])
  refine wpAnyH_take (i:=2) (oi:={ dst:=some 113,op:=Op.nilCheck (Operand.tmp 112),type:=0,pos:= "meaning.go:52",after:=#[{ on:=1,ground:=Ground.data }],guard:=none }) (v:=?_) rfl (by kernel_rfl) (by kernel_rfl) (by kernel_rfl) (fun _ _ _ h=>h) (Or.inl ⟨by rfl,?_⟩) (by assumption) ?_
  rotate_left
  ·intro w hSw;(try dsimp only at hSw);go_simp;(try with_reducible rfl)
  (try simp only [Act.put,zzB,zzD,zzC])
  refine wpAnyH_take (i:=3) (oi:={ dst:=some 114,op:=Op.fieldAddr 110 (Operand.tmp 113) 5,type:=0,pos:= "meaning.go:52",after:=#[{ on:=2,ground:=Ground.data }],guard:=none }) (v:=?_) rfl (by kernel_rfl) (by kernel_rfl) (by kernel_rfl) (fun _ _ _ h=>h) (Or.inl ⟨by rfl,?_⟩) (by assumption) ?_
  rotate_left
  ·intro w hSw;(try dsimp only at hSw);go_simp;(try with_reducible rfl)
  (try simp only [Act.put,zzB,zzD,zzC])
  refine wpAnyH_take (i:=5) (oi:={ dst:=some 116,op:=Op.move (Operand.tmp 7),type:=115,pos:= "meaning.go:52",after:=#[],guard:=none }) (v:=?_) rfl (by kernel_rfl) (by kernel_rfl) (by kernel_rfl) (fun _ _ _ h=>h) (Or.inl ⟨by rfl,?_⟩) (by assumption) ?_
  rotate_left
  ·intro w hSw;(try dsimp only at hSw);go_simp;(try with_reducible rfl)
  (try simp only [Act.put,zzB,zzD,zzC])
  refine wpAnyH_take (i:=6) (oi:={ dst:=some 117,op:=Op.load 114 (Operand.tmp 6),type:=114,pos:= "meaning.go:52",after:=#[],guard:=none }) (v:=?_) rfl (by kernel_rfl) (by kernel_rfl) (by kernel_rfl) (fun _ _ _ h=>h) (Or.inl ⟨by rfl,?_⟩) (by assumption) ?_
  rotate_left
  ·intro w hSw;(try dsimp only at hSw);go_simp;(try with_reducible rfl)
  (try simp only [Act.put,zzB,zzD,zzC])
  refine wpAnyH_ready (rs:=[4,7]) (by kernel_rfl) (by simp) ?_
  refine AllReadyH.cons (o:={ dst:=some 115,op:=Op.load 108 (Operand.tmp 114),type:=108,pos:= "meaning.go:52",after:=#[{ on:=3,ground:=Ground.data }],guard:=none }) rfl (fun K hK=>?_) ?_
  ·skip
   go_simp
   refine hK.out _ _ ?_ (fun hHeld=>?_)
   ·exact ⟨qx2,fao⟩
   clear hK K hHeld
   (try simp only [Act.put,zzB,zzD,zzC])
   refine wpAnyH_ready (rs:=[7]) (by kernel_rfl) (by simp) ?_
   refine AllReadyH.cons (o:={ dst:=some 118,op:=Op.call { callee:=Callee.value (Operand.tmp 117),args:=#[],argTypes:=#[] },type:=69,pos:= "meaning.go:52",after:=#[{ on:=6,ground:=Ground.data }],guard:=none }) rfl (fun K hK=>?_) ?_
   ·skip
    refine step_callv rfl 55 (.tmp 117) #[] #[] #[.pointer (some ⟨w.heap.size,0,none⟩)] rfl rfl #[] (by simp) (enters0 Tryz.func55 (by kernel_rfl) (by kernel_rfl)) ?_;refine HXX.out.mono ?_;rintro e w5 ⟨u5,rfl,hsh5,hut5,hb5⟩;have HSH5:=zzA hsh5;have HB5:=zzA hb5;have hr5:=HR2.out.later hb5;have fbo:w5.cell? ⟨w.heap.size+3,0,none⟩=some (.pointer (some ⟨w.heap.size+2,0,none⟩)):=hr5.co;have fbn:w5.cell? ⟨w.heap.size+2,5,none⟩=some (.slice A vs.length c):=hr5.row.blk.cell 5;have HLO:=zzA (ufloop_any (-3) z u5 S w.heap.size w2.drew.heap.size w5 ((hb5.cell (p:=⟨w.heap.size,6,none⟩) (zzQ HNE.out.2.2.2.1 HR2.out.kept.size)).trans r6) hut5 hb5.size hr5.x.sub);have HR5:=zzA hr5;clear hsh5 hut5 hb5 hr5;have hr5x:=HR5.out.cx;refine ⟨_,rfl,?_⟩;simp only [Act.put,List.getElem_toArray,List.getElem_cons_succ,List.getElem_cons_zero,zzB,zzD,zzC]
    refine hK.out _ _ ?_ (fun hHeld=>?_)
    ·exact ⟨hr5x,fbo⟩
    clear hK K hHeld
    (try simp only [Act.put,zzB,zzD,zzC])
    refine wpAnyH_ready (rs:=[8]) (by kernel_rfl) (by simp) ?_
    refine AllReadyH.cons (o:={ dst:=some 119,op:=Op.call { callee:=Callee.value (Operand.tmp 116),args:=#[Operand.const (Value.int IntKind.i64 (-3)),Operand.tmp 118],argTypes:=#[3,69] },type:=69,pos:= "meaning.go:52",after:=#[{ on:=5,ground:=Ground.data },{ on:=7,ground:=Ground.data },{ on:=7,ground:=Ground.chain }],guard:=none }) rfl (fun K hK=>?_) ?_
    ·skip
     refine step_callv rfl 56 (.tmp 116) _ _ #[.pointer (some ⟨w.heap.size,0,none⟩)] rfl rfl #[.int .i64 (-3),.pointer (some ⟨u5.ad,0,none⟩)] (by simp only [List.map_toArray,zzS,zzt];rfl) (enters0 Tryz.func56 (by kernel_rfl) (by kernel_rfl)) ?_;refine HLO.out.mono ?_;rintro e w6 ⟨u6,rfl,hsh6,hut6,hb6⟩;have HSH6:=zzA hsh6;have HUT6:=zzA hut6;have HB6:=zzA (HB5.out.trans (hb6.mono HB5.out.size));have hr6:=HR5.out.later hb6;have HR6:=zzA hr6;have fco:w6.cell? ⟨w.heap.size+3,0,none⟩=some (.pointer (some ⟨w.heap.size+2,0,none⟩)):=hr6.co;have fcn:w6.cell? ⟨w.heap.size+2,5,none⟩=some (.slice A vs.length c):=hr6.row.blk.cell 5;have hba6:Below w6.heap.size w6 (w6.alloc (.cells #[.pointer (some ⟨u6.ad,0,none⟩)] 69)):=(zzb _ _).alloc (zzF _) _;have HBA6:=zzA hba6;have hrA:=hr6.later hba6;have fdo:(w6.alloc (.cells #[.pointer (some ⟨u6.ad,0,none⟩)] 69)).cell? ⟨w.heap.size+3,0,none⟩=some (.pointer (some ⟨w.heap.size+2,0,none⟩)):=hrA.co;have fdn:(w6.alloc (.cells #[.pointer (some ⟨u6.ad,0,none⟩)] 69)).cell? ⟨w.heap.size+2,5,none⟩=some (.slice A vs.length c):=hrA.row.blk.cell 5;have HRA:=zzA hrA;have HNEW:=zzA (Reads.of_own (own_lit w6 w6.heap.size 69 1 1 #[.pointer (some ⟨u6.ad,0,none⟩)] (uptrs [u6]) (zzF _) (by simp [uptrs]) (by simp [uptrs]) (by decide)));clear hsh6 hut6 hb6 hr6 hba6 hrA;have hr6x:=HR6.out.cx;have hrAx:=HRA.out.cx;refine ⟨_,rfl,?_⟩;simp only [Act.put,List.getElem_toArray,List.getElem_cons_succ,List.getElem_cons_zero,zzB,zzD,zzC]
     refine hK.out _ _ ?_ (fun hHeld=>?_)
     ·exact ⟨hr6x,fco⟩
     clear hK K hHeld
     (try simp only [Act.put,zzB,zzD,zzC])
     refine wpAnyH_ready (rs:=[9]) (by kernel_rfl) (by simp) ?_
     refine AllReadyH.cons (o:={ dst:=some 120,op:=Op.buildSlice 108 1 #[(0,Operand.tmp 119)],type:=108,pos:= "meaning.go:52",after:=#[{ on:=8,ground:=Ground.data }],guard:=none }) rfl (fun K hK=>?_) ?_
     ·skip
      go_simp
      refine hK.out _ _ ?_ (fun hHeld=>?_)
      ·exact ⟨hrAx,fdo⟩
      clear hK K hHeld
      (try simp only [Act.put,zzB,zzD,zzC])
      refine wpAnyH_ready (rs:=[10]) (by kernel_rfl) (by simp) ?_
      refine AllReadyH.cons (o:={ dst:=some 121,op:=Op.call { callee:=Callee.builtin Builtin.append,args:=#[Operand.tmp 115,Operand.tmp 120],argTypes:=#[108,108] },type:=108,pos:= "meaning.go:52",after:=#[{ on:=4,ground:=Ground.data },{ on:=9,ground:=Ground.data },{ on:=8,ground:=Ground.chain }],guard:=none }) rfl (fun K hK=>?_) ?_
      ·skip
       refine step_append_reads rfl (.tmp 115) (.tmp 120) 108 rfl w1.heap.size 69 i0 (.pointer none) 1 8 Tryz.underlying108 hi hz0 hz1 hz2 rfl (by decide) (.slice A vs.length c) vs.length (uptrs vs) rfl HRA.out.row.own (some ⟨w6.heap.size,0,none⟩) _ 1 1 (uptrs [u6]) rfl (fun h=>by cases h) HNEW.out (fun x hx=>by simp only [uptrs,zzS,zzt,zzE] at hx;subst hx;rfl) (by unfold maxLen;omega) (by omega) HRA.out.row.base ?_;intro A7 c7 w7 ha7;have HA7:=zzA ha7;have hnb7:=HRA.out.row.blk.grown ha7.grown HRA.out.row.sep;have r5:=hnb7.cell 5;have f5:=hnb7.frozen 5;have hbo7:w7.cell? ⟨w.heap.size+3,0,none⟩=some (.pointer (some ⟨w.heap.size+2,0,none⟩)):=((Kept.of_grown' ha7.grown).cell (p:=⟨w.heap.size+3,0,none⟩) (zzQ HRA.out.ne.2.2.2.2.2 HRA.out.kept.size) (fun hm=>by have:=HRA.out.row.own_ge (w.heap.size+3) hm;have:=HRA.out.ne.2.2.2.2.2;omega)).trans HRA.out.co;have hr7x:=((Kept.of_grown' ha7.grown).cell (p:=⟨w.heap.size+1,0,none⟩) (zze _ _ HRA.out.cx) (fun hm=>by have:=HRA.out.row.own_ge (w.heap.size+1) hm;have:=HRA.out.ne;omega)).trans HRA.out.cx;clear ha7 hnb7;simp only [Act.put,List.getElem_toArray,List.getElem_cons_succ,List.getElem_cons_zero,zzB,zzD,zzC]
       refine hK.out _ _ ?_ (fun hHeld=>?_)
       ·exact ⟨hr7x,hbo7⟩
       clear hK K hHeld
       (try simp only [Act.put,zzB,zzD,zzC])
       refine wpAnyH_ready (rs:=[11]) (by kernel_rfl) (by simp) ?_
       refine AllReadyH.cons (o:={ dst:=some 122,op:=Op.nilCheck (Operand.tmp 111),type:=0,pos:= "meaning.go:52",after:=#[{ on:=0,ground:=Ground.data },{ on:=0,ground:=Ground.phase },{ on:=1,ground:=Ground.phase },{ on:=2,ground:=Ground.phase },{ on:=3,ground:=Ground.phase },{ on:=4,ground:=Ground.phase },{ on:=5,ground:=Ground.phase },{ on:=6,ground:=Ground.phase },{ on:=7,ground:=Ground.phase },{ on:=8,ground:=Ground.phase },{ on:=9,ground:=Ground.phase },{ on:=10,ground:=Ground.phase }],guard:=none }) rfl (fun K hK=>?_) ?_
       ·skip
        go_simp
        refine hK.out _ _ ?_ (fun hHeld=>?_)
        ·exact ⟨hr7x,hbo7⟩
        clear hK K hHeld
        (try simp only [Act.put,zzB,zzD,zzC])
        refine wpAnyH_ready (rs:=[12]) (by kernel_rfl) (by simp) ?_
        refine AllReadyH.cons (o:={ dst:=some 123,op:=Op.fieldAddr 110 (Operand.tmp 122) 5,type:=0,pos:= "meaning.go:52",after:=#[{ on:=11,ground:=Ground.data },{ on:=0,ground:=Ground.phase },{ on:=1,ground:=Ground.phase },{ on:=2,ground:=Ground.phase },{ on:=3,ground:=Ground.phase },{ on:=4,ground:=Ground.phase },{ on:=5,ground:=Ground.phase },{ on:=6,ground:=Ground.phase },{ on:=7,ground:=Ground.phase },{ on:=8,ground:=Ground.phase },{ on:=9,ground:=Ground.phase },{ on:=10,ground:=Ground.phase }],guard:=none }) rfl (fun K hK=>?_) ?_
        ·skip
         go_simp
         refine hK.out _ _ ?_ (fun hHeld=>?_)
         ·exact ⟨hr7x,hbo7⟩
         clear hK K hHeld
         (try simp only [Act.put,zzB,zzD,zzC])
         refine wpAnyH_ready (rs:=[13]) (by kernel_rfl) (by simp) ?_
         refine AllReadyH.cons (o:={ dst:=none,op:=Op.store 108 (Operand.tmp 123) (Operand.tmp 121),type:=0,pos:= "meaning.go:52",after:=#[{ on:=12,ground:=Ground.data },{ on:=10,ground:=Ground.data },{ on:=10,ground:=Ground.chain },{ on:=0,ground:=Ground.phase },{ on:=1,ground:=Ground.phase },{ on:=2,ground:=Ground.phase },{ on:=3,ground:=Ground.phase },{ on:=4,ground:=Ground.phase },{ on:=5,ground:=Ground.phase },{ on:=6,ground:=Ground.phase },{ on:=7,ground:=Ground.phase },{ on:=8,ground:=Ground.phase },{ on:=9,ground:=Ground.phase },{ on:=10,ground:=Ground.phase }],guard:=none }) rfl (fun K hK=>?_) ?_
         ·skip
          go_simp
          refine hK.out _ _ ?_ (fun hHeld=>?_)
          ·exact ⟨(zyG _ _ |>.cell (p:=⟨w.heap.size+1,0,none⟩) (zze _ _ hr7x) (by simp)).trans hr7x,(zyG _ _ |>.cell (p:=⟨w.heap.size+3,0,none⟩) (zze _ _ hbo7) (by simp)).trans hbo7⟩
          clear hK K hHeld
          (try simp only [Act.put,zzB,zzD,zzC])
          refine wpAnyH_done (by kernel_rfl) ?_ _
          exact NoPanic.normal ⟨rfl,_,rfl,rfl,rfl,plus_leaf HR2.out HUT6.out HB6.out HBA6.out HA7.out (by rw [HSH6.out,HSH5.out]) HSH.out⟩
         exact AllReadyH.nil
        exact AllReadyH.nil
       exact AllReadyH.nil
      exact AllReadyH.nil
     exact AllReadyH.nil
    exact AllReadyH.nil
   exact AllReadyH.nil
  refine AllReadyH.cons (o:={ dst:=some 118,op:=Op.call { callee:=Callee.value (Operand.tmp 117),args:=#[],argTypes:=#[] },type:=69,pos:= "meaning.go:52",after:=#[{ on:=6,ground:=Ground.data }],guard:=none }) rfl (fun K hK=>?_) ?_
  ·skip
   refine step_callv rfl 55 (.tmp 117) #[] #[] #[.pointer (some ⟨w.heap.size,0,none⟩)] rfl rfl #[] (by simp) (enters0 Tryz.func55 (by kernel_rfl) (by kernel_rfl)) ?_;refine HXX.out.mono ?_;rintro e w5 ⟨u5,rfl,hsh5,hut5,hb5⟩;have HSH5:=zzA hsh5;have HB5:=zzA hb5;have hr5:=HR2.out.later hb5;have fbo:w5.cell? ⟨w.heap.size+3,0,none⟩=some (.pointer (some ⟨w.heap.size+2,0,none⟩)):=hr5.co;have fbn:w5.cell? ⟨w.heap.size+2,5,none⟩=some (.slice A vs.length c):=hr5.row.blk.cell 5;have HLO:=zzA (ufloop_any (-3) z u5 S w.heap.size w2.drew.heap.size w5 ((hb5.cell (p:=⟨w.heap.size,6,none⟩) (zzQ HNE.out.2.2.2.1 HR2.out.kept.size)).trans r6) hut5 hb5.size hr5.x.sub);have HR5:=zzA hr5;clear hsh5 hut5 hb5 hr5;have hr5x:=HR5.out.cx;refine ⟨_,rfl,?_⟩;simp only [Act.put,List.getElem_toArray,List.getElem_cons_succ,List.getElem_cons_zero,zzB,zzD,zzC]
   refine hK.out _ _ ?_ (fun hHeld=>?_)
   ·exact ⟨hr5x,fbo⟩
   clear hK K hHeld
   (try simp only [Act.put,zzB,zzD,zzC])
   refine wpAnyH_ready (rs:=[4,8]) (by kernel_rfl) (by simp) ?_
   refine AllReadyH.cons (o:={ dst:=some 115,op:=Op.load 108 (Operand.tmp 114),type:=108,pos:= "meaning.go:52",after:=#[{ on:=3,ground:=Ground.data }],guard:=none }) rfl (fun K hK=>?_) ?_
   ·skip
    go_simp
    refine hK.out _ _ ?_ (fun hHeld=>?_)
    ·exact ⟨hr5x,fbo⟩
    clear hK K hHeld
    (try simp only [Act.put,zzB,zzD,zzC])
    refine wpAnyH_ready (rs:=[8]) (by kernel_rfl) (by simp) ?_
    refine AllReadyH.cons (o:={ dst:=some 119,op:=Op.call { callee:=Callee.value (Operand.tmp 116),args:=#[Operand.const (Value.int IntKind.i64 (-3)),Operand.tmp 118],argTypes:=#[3,69] },type:=69,pos:= "meaning.go:52",after:=#[{ on:=5,ground:=Ground.data },{ on:=7,ground:=Ground.data },{ on:=7,ground:=Ground.chain }],guard:=none }) rfl (fun K hK=>?_) ?_
    ·skip
     refine step_callv rfl 56 (.tmp 116) _ _ #[.pointer (some ⟨w.heap.size,0,none⟩)] rfl rfl #[.int .i64 (-3),.pointer (some ⟨u5.ad,0,none⟩)] (by simp only [List.map_toArray,zzS,zzt];rfl) (enters0 Tryz.func56 (by kernel_rfl) (by kernel_rfl)) ?_;refine HLO.out.mono ?_;rintro e w6 ⟨u6,rfl,hsh6,hut6,hb6⟩;have HSH6:=zzA hsh6;have HUT6:=zzA hut6;have HB6:=zzA (HB5.out.trans (hb6.mono HB5.out.size));have hr6:=HR5.out.later hb6;have HR6:=zzA hr6;have fco:w6.cell? ⟨w.heap.size+3,0,none⟩=some (.pointer (some ⟨w.heap.size+2,0,none⟩)):=hr6.co;have fcn:w6.cell? ⟨w.heap.size+2,5,none⟩=some (.slice A vs.length c):=hr6.row.blk.cell 5;have hba6:Below w6.heap.size w6 (w6.alloc (.cells #[.pointer (some ⟨u6.ad,0,none⟩)] 69)):=(zzb _ _).alloc (zzF _) _;have HBA6:=zzA hba6;have hrA:=hr6.later hba6;have fdo:(w6.alloc (.cells #[.pointer (some ⟨u6.ad,0,none⟩)] 69)).cell? ⟨w.heap.size+3,0,none⟩=some (.pointer (some ⟨w.heap.size+2,0,none⟩)):=hrA.co;have fdn:(w6.alloc (.cells #[.pointer (some ⟨u6.ad,0,none⟩)] 69)).cell? ⟨w.heap.size+2,5,none⟩=some (.slice A vs.length c):=hrA.row.blk.cell 5;have HRA:=zzA hrA;have HNEW:=zzA (Reads.of_own (own_lit w6 w6.heap.size 69 1 1 #[.pointer (some ⟨u6.ad,0,none⟩)] (uptrs [u6]) (zzF _) (by simp [uptrs]) (by simp [uptrs]) (by decide)));clear hsh6 hut6 hb6 hr6 hba6 hrA;have hr6x:=HR6.out.cx;have hrAx:=HRA.out.cx;refine ⟨_,rfl,?_⟩;simp only [Act.put,List.getElem_toArray,List.getElem_cons_succ,List.getElem_cons_zero,zzB,zzD,zzC]
     refine hK.out _ _ ?_ (fun hHeld=>?_)
     ·exact ⟨hr6x,fco⟩
     clear hK K hHeld
     (try simp only [Act.put,zzB,zzD,zzC])
     refine wpAnyH_ready (rs:=[9]) (by kernel_rfl) (by simp) ?_
     refine AllReadyH.cons (o:={ dst:=some 120,op:=Op.buildSlice 108 1 #[(0,Operand.tmp 119)],type:=108,pos:= "meaning.go:52",after:=#[{ on:=8,ground:=Ground.data }],guard:=none }) rfl (fun K hK=>?_) ?_
     ·skip
      go_simp
      refine hK.out _ _ ?_ (fun hHeld=>?_)
      ·exact ⟨hrAx,fdo⟩
      clear hK K hHeld
      (try simp only [Act.put,zzB,zzD,zzC])
      refine wpAnyH_ready (rs:=[10]) (by kernel_rfl) (by simp) ?_
      refine AllReadyH.cons (o:={ dst:=some 121,op:=Op.call { callee:=Callee.builtin Builtin.append,args:=#[Operand.tmp 115,Operand.tmp 120],argTypes:=#[108,108] },type:=108,pos:= "meaning.go:52",after:=#[{ on:=4,ground:=Ground.data },{ on:=9,ground:=Ground.data },{ on:=8,ground:=Ground.chain }],guard:=none }) rfl (fun K hK=>?_) ?_
      ·skip
       refine step_append_reads rfl (.tmp 115) (.tmp 120) 108 rfl w1.heap.size 69 i0 (.pointer none) 1 8 Tryz.underlying108 hi hz0 hz1 hz2 rfl (by decide) (.slice A vs.length c) vs.length (uptrs vs) rfl HRA.out.row.own (some ⟨w6.heap.size,0,none⟩) _ 1 1 (uptrs [u6]) rfl (fun h=>by cases h) HNEW.out (fun x hx=>by simp only [uptrs,zzS,zzt,zzE] at hx;subst hx;rfl) (by unfold maxLen;omega) (by omega) HRA.out.row.base ?_;intro A7 c7 w7 ha7;have HA7:=zzA ha7;have hnb7:=HRA.out.row.blk.grown ha7.grown HRA.out.row.sep;have r5:=hnb7.cell 5;have f5:=hnb7.frozen 5;have hbo7:w7.cell? ⟨w.heap.size+3,0,none⟩=some (.pointer (some ⟨w.heap.size+2,0,none⟩)):=((Kept.of_grown' ha7.grown).cell (p:=⟨w.heap.size+3,0,none⟩) (zzQ HRA.out.ne.2.2.2.2.2 HRA.out.kept.size) (fun hm=>by have:=HRA.out.row.own_ge (w.heap.size+3) hm;have:=HRA.out.ne.2.2.2.2.2;omega)).trans HRA.out.co;have hr7x:=((Kept.of_grown' ha7.grown).cell (p:=⟨w.heap.size+1,0,none⟩) (zze _ _ HRA.out.cx) (fun hm=>by have:=HRA.out.row.own_ge (w.heap.size+1) hm;have:=HRA.out.ne;omega)).trans HRA.out.cx;clear ha7 hnb7;simp only [Act.put,List.getElem_toArray,List.getElem_cons_succ,List.getElem_cons_zero,zzB,zzD,zzC]
       refine hK.out _ _ ?_ (fun hHeld=>?_)
       ·exact ⟨hr7x,hbo7⟩
       clear hK K hHeld
       (try simp only [Act.put,zzB,zzD,zzC])
       refine wpAnyH_ready (rs:=[11]) (by kernel_rfl) (by simp) ?_
       refine AllReadyH.cons (o:={ dst:=some 122,op:=Op.nilCheck (Operand.tmp 111),type:=0,pos:= "meaning.go:52",after:=#[{ on:=0,ground:=Ground.data },{ on:=0,ground:=Ground.phase },{ on:=1,ground:=Ground.phase },{ on:=2,ground:=Ground.phase },{ on:=3,ground:=Ground.phase },{ on:=4,ground:=Ground.phase },{ on:=5,ground:=Ground.phase },{ on:=6,ground:=Ground.phase },{ on:=7,ground:=Ground.phase },{ on:=8,ground:=Ground.phase },{ on:=9,ground:=Ground.phase },{ on:=10,ground:=Ground.phase }],guard:=none }) rfl (fun K hK=>?_) ?_
       ·skip
        go_simp
        refine hK.out _ _ ?_ (fun hHeld=>?_)
        ·exact ⟨hr7x,hbo7⟩
        clear hK K hHeld
        (try simp only [Act.put,zzB,zzD,zzC])
        refine wpAnyH_ready (rs:=[12]) (by kernel_rfl) (by simp) ?_
        refine AllReadyH.cons (o:={ dst:=some 123,op:=Op.fieldAddr 110 (Operand.tmp 122) 5,type:=0,pos:= "meaning.go:52",after:=#[{ on:=11,ground:=Ground.data },{ on:=0,ground:=Ground.phase },{ on:=1,ground:=Ground.phase },{ on:=2,ground:=Ground.phase },{ on:=3,ground:=Ground.phase },{ on:=4,ground:=Ground.phase },{ on:=5,ground:=Ground.phase },{ on:=6,ground:=Ground.phase },{ on:=7,ground:=Ground.phase },{ on:=8,ground:=Ground.phase },{ on:=9,ground:=Ground.phase },{ on:=10,ground:=Ground.phase }],guard:=none }) rfl (fun K hK=>?_) ?_
        ·skip
         go_simp
         refine hK.out _ _ ?_ (fun hHeld=>?_)
         ·exact ⟨hr7x,hbo7⟩
         clear hK K hHeld
         (try simp only [Act.put,zzB,zzD,zzC])
         refine wpAnyH_ready (rs:=[13]) (by kernel_rfl) (by simp) ?_
         refine AllReadyH.cons (o:={ dst:=none,op:=Op.store 108 (Operand.tmp 123) (Operand.tmp 121),type:=0,pos:= "meaning.go:52",after:=#[{ on:=12,ground:=Ground.data },{ on:=10,ground:=Ground.data },{ on:=10,ground:=Ground.chain },{ on:=0,ground:=Ground.phase },{ on:=1,ground:=Ground.phase },{ on:=2,ground:=Ground.phase },{ on:=3,ground:=Ground.phase },{ on:=4,ground:=Ground.phase },{ on:=5,ground:=Ground.phase },{ on:=6,ground:=Ground.phase },{ on:=7,ground:=Ground.phase },{ on:=8,ground:=Ground.phase },{ on:=9,ground:=Ground.phase },{ on:=10,ground:=Ground.phase }],guard:=none }) rfl (fun K hK=>?_) ?_
         ·skip
          go_simp
          refine hK.out _ _ ?_ (fun hHeld=>?_)
          ·exact ⟨(zyG _ _ |>.cell (p:=⟨w.heap.size+1,0,none⟩) (zze _ _ hr7x) (by simp)).trans hr7x,(zyG _ _ |>.cell (p:=⟨w.heap.size+3,0,none⟩) (zze _ _ hbo7) (by simp)).trans hbo7⟩
          clear hK K hHeld
          (try simp only [Act.put,zzB,zzD,zzC])
          refine wpAnyH_done (by kernel_rfl) ?_ _
          exact NoPanic.normal ⟨rfl,_,rfl,rfl,rfl,plus_leaf HR2.out HUT6.out HB6.out HBA6.out HA7.out (by rw [HSH6.out,HSH5.out]) HSH.out⟩
         exact AllReadyH.nil
        exact AllReadyH.nil
       exact AllReadyH.nil
      exact AllReadyH.nil
     exact AllReadyH.nil
    exact AllReadyH.nil
   refine AllReadyH.cons (o:={ dst:=some 119,op:=Op.call { callee:=Callee.value (Operand.tmp 116),args:=#[Operand.const (Value.int IntKind.i64 (-3)),Operand.tmp 118],argTypes:=#[3,69] },type:=69,pos:= "meaning.go:52",after:=#[{ on:=5,ground:=Ground.data },{ on:=7,ground:=Ground.data },{ on:=7,ground:=Ground.chain }],guard:=none }) rfl (fun K hK=>?_) ?_
   ·skip
    refine step_callv rfl 56 (.tmp 116) _ _ #[.pointer (some ⟨w.heap.size,0,none⟩)] rfl rfl #[.int .i64 (-3),.pointer (some ⟨u5.ad,0,none⟩)] (by simp only [List.map_toArray,zzS,zzt];rfl) (enters0 Tryz.func56 (by kernel_rfl) (by kernel_rfl)) ?_;refine HLO.out.mono ?_;rintro e w6 ⟨u6,rfl,hsh6,hut6,hb6⟩;have HSH6:=zzA hsh6;have HUT6:=zzA hut6;have HB6:=zzA (HB5.out.trans (hb6.mono HB5.out.size));have hr6:=HR5.out.later hb6;have HR6:=zzA hr6;have fco:w6.cell? ⟨w.heap.size+3,0,none⟩=some (.pointer (some ⟨w.heap.size+2,0,none⟩)):=hr6.co;have fcn:w6.cell? ⟨w.heap.size+2,5,none⟩=some (.slice A vs.length c):=hr6.row.blk.cell 5;have hba6:Below w6.heap.size w6 (w6.alloc (.cells #[.pointer (some ⟨u6.ad,0,none⟩)] 69)):=(zzb _ _).alloc (zzF _) _;have HBA6:=zzA hba6;have hrA:=hr6.later hba6;have fdo:(w6.alloc (.cells #[.pointer (some ⟨u6.ad,0,none⟩)] 69)).cell? ⟨w.heap.size+3,0,none⟩=some (.pointer (some ⟨w.heap.size+2,0,none⟩)):=hrA.co;have fdn:(w6.alloc (.cells #[.pointer (some ⟨u6.ad,0,none⟩)] 69)).cell? ⟨w.heap.size+2,5,none⟩=some (.slice A vs.length c):=hrA.row.blk.cell 5;have HRA:=zzA hrA;have HNEW:=zzA (Reads.of_own (own_lit w6 w6.heap.size 69 1 1 #[.pointer (some ⟨u6.ad,0,none⟩)] (uptrs [u6]) (zzF _) (by simp [uptrs]) (by simp [uptrs]) (by decide)));clear hsh6 hut6 hb6 hr6 hba6 hrA;have hr6x:=HR6.out.cx;have hrAx:=HRA.out.cx;refine ⟨_,rfl,?_⟩;simp only [Act.put,List.getElem_toArray,List.getElem_cons_succ,List.getElem_cons_zero,zzB,zzD,zzC]
    refine hK.out _ _ ?_ (fun hHeld=>?_)
    ·exact ⟨hr6x,fco⟩
    clear hK K hHeld
    (try simp only [Act.put,zzB,zzD,zzC])
    refine wpAnyH_ready (rs:=[4,9]) (by kernel_rfl) (by simp) ?_
    refine AllReadyH.cons (o:={ dst:=some 115,op:=Op.load 108 (Operand.tmp 114),type:=108,pos:= "meaning.go:52",after:=#[{ on:=3,ground:=Ground.data }],guard:=none }) rfl (fun K hK=>?_) ?_
    ·skip
     go_simp
     refine hK.out _ _ ?_ (fun hHeld=>?_)
     ·exact ⟨hr6x,fco⟩
     clear hK K hHeld
     (try simp only [Act.put,zzB,zzD,zzC])
     refine wpAnyH_ready (rs:=[9]) (by kernel_rfl) (by simp) ?_
     refine AllReadyH.cons (o:={ dst:=some 120,op:=Op.buildSlice 108 1 #[(0,Operand.tmp 119)],type:=108,pos:= "meaning.go:52",after:=#[{ on:=8,ground:=Ground.data }],guard:=none }) rfl (fun K hK=>?_) ?_
     ·skip
      go_simp
      refine hK.out _ _ ?_ (fun hHeld=>?_)
      ·exact ⟨hrAx,fdo⟩
      clear hK K hHeld
      (try simp only [Act.put,zzB,zzD,zzC])
      refine wpAnyH_ready (rs:=[10]) (by kernel_rfl) (by simp) ?_
      refine AllReadyH.cons (o:={ dst:=some 121,op:=Op.call { callee:=Callee.builtin Builtin.append,args:=#[Operand.tmp 115,Operand.tmp 120],argTypes:=#[108,108] },type:=108,pos:= "meaning.go:52",after:=#[{ on:=4,ground:=Ground.data },{ on:=9,ground:=Ground.data },{ on:=8,ground:=Ground.chain }],guard:=none }) rfl (fun K hK=>?_) ?_
      ·skip
       refine step_append_reads rfl (.tmp 115) (.tmp 120) 108 rfl w1.heap.size 69 i0 (.pointer none) 1 8 Tryz.underlying108 hi hz0 hz1 hz2 rfl (by decide) (.slice A vs.length c) vs.length (uptrs vs) rfl HRA.out.row.own (some ⟨w6.heap.size,0,none⟩) _ 1 1 (uptrs [u6]) rfl (fun h=>by cases h) HNEW.out (fun x hx=>by simp only [uptrs,zzS,zzt,zzE] at hx;subst hx;rfl) (by unfold maxLen;omega) (by omega) HRA.out.row.base ?_;intro A7 c7 w7 ha7;have HA7:=zzA ha7;have hnb7:=HRA.out.row.blk.grown ha7.grown HRA.out.row.sep;have r5:=hnb7.cell 5;have f5:=hnb7.frozen 5;have hbo7:w7.cell? ⟨w.heap.size+3,0,none⟩=some (.pointer (some ⟨w.heap.size+2,0,none⟩)):=((Kept.of_grown' ha7.grown).cell (p:=⟨w.heap.size+3,0,none⟩) (zzQ HRA.out.ne.2.2.2.2.2 HRA.out.kept.size) (fun hm=>by have:=HRA.out.row.own_ge (w.heap.size+3) hm;have:=HRA.out.ne.2.2.2.2.2;omega)).trans HRA.out.co;have hr7x:=((Kept.of_grown' ha7.grown).cell (p:=⟨w.heap.size+1,0,none⟩) (zze _ _ HRA.out.cx) (fun hm=>by have:=HRA.out.row.own_ge (w.heap.size+1) hm;have:=HRA.out.ne;omega)).trans HRA.out.cx;clear ha7 hnb7;simp only [Act.put,List.getElem_toArray,List.getElem_cons_succ,List.getElem_cons_zero,zzB,zzD,zzC]
       refine hK.out _ _ ?_ (fun hHeld=>?_)
       ·exact ⟨hr7x,hbo7⟩
       clear hK K hHeld
       (try simp only [Act.put,zzB,zzD,zzC])
       refine wpAnyH_ready (rs:=[11]) (by kernel_rfl) (by simp) ?_
       refine AllReadyH.cons (o:={ dst:=some 122,op:=Op.nilCheck (Operand.tmp 111),type:=0,pos:= "meaning.go:52",after:=#[{ on:=0,ground:=Ground.data },{ on:=0,ground:=Ground.phase },{ on:=1,ground:=Ground.phase },{ on:=2,ground:=Ground.phase },{ on:=3,ground:=Ground.phase },{ on:=4,ground:=Ground.phase },{ on:=5,ground:=Ground.phase },{ on:=6,ground:=Ground.phase },{ on:=7,ground:=Ground.phase },{ on:=8,ground:=Ground.phase },{ on:=9,ground:=Ground.phase },{ on:=10,ground:=Ground.phase }],guard:=none }) rfl (fun K hK=>?_) ?_
       ·skip
        go_simp
        refine hK.out _ _ ?_ (fun hHeld=>?_)
        ·exact ⟨hr7x,hbo7⟩
        clear hK K hHeld
        (try simp only [Act.put,zzB,zzD,zzC])
        refine wpAnyH_ready (rs:=[12]) (by kernel_rfl) (by simp) ?_
        refine AllReadyH.cons (o:={ dst:=some 123,op:=Op.fieldAddr 110 (Operand.tmp 122) 5,type:=0,pos:= "meaning.go:52",after:=#[{ on:=11,ground:=Ground.data },{ on:=0,ground:=Ground.phase },{ on:=1,ground:=Ground.phase },{ on:=2,ground:=Ground.phase },{ on:=3,ground:=Ground.phase },{ on:=4,ground:=Ground.phase },{ on:=5,ground:=Ground.phase },{ on:=6,ground:=Ground.phase },{ on:=7,ground:=Ground.phase },{ on:=8,ground:=Ground.phase },{ on:=9,ground:=Ground.phase },{ on:=10,ground:=Ground.phase }],guard:=none }) rfl (fun K hK=>?_) ?_
        ·skip
         go_simp
         refine hK.out _ _ ?_ (fun hHeld=>?_)
         ·exact ⟨hr7x,hbo7⟩
         clear hK K hHeld
         (try simp only [Act.put,zzB,zzD,zzC])
         refine wpAnyH_ready (rs:=[13]) (by kernel_rfl) (by simp) ?_
         refine AllReadyH.cons (o:={ dst:=none,op:=Op.store 108 (Operand.tmp 123) (Operand.tmp 121),type:=0,pos:= "meaning.go:52",after:=#[{ on:=12,ground:=Ground.data },{ on:=10,ground:=Ground.data },{ on:=10,ground:=Ground.chain },{ on:=0,ground:=Ground.phase },{ on:=1,ground:=Ground.phase },{ on:=2,ground:=Ground.phase },{ on:=3,ground:=Ground.phase },{ on:=4,ground:=Ground.phase },{ on:=5,ground:=Ground.phase },{ on:=6,ground:=Ground.phase },{ on:=7,ground:=Ground.phase },{ on:=8,ground:=Ground.phase },{ on:=9,ground:=Ground.phase },{ on:=10,ground:=Ground.phase }],guard:=none }) rfl (fun K hK=>?_) ?_
         ·skip
          go_simp
          refine hK.out _ _ ?_ (fun hHeld=>?_)
          ·exact ⟨(zyG _ _ |>.cell (p:=⟨w.heap.size+1,0,none⟩) (zze _ _ hr7x) (by simp)).trans hr7x,(zyG _ _ |>.cell (p:=⟨w.heap.size+3,0,none⟩) (zze _ _ hbo7) (by simp)).trans hbo7⟩
          clear hK K hHeld
          (try simp only [Act.put,zzB,zzD,zzC])
          refine wpAnyH_done (by kernel_rfl) ?_ _
          exact NoPanic.normal ⟨rfl,_,rfl,rfl,rfl,plus_leaf HR2.out HUT6.out HB6.out HBA6.out HA7.out (by rw [HSH6.out,HSH5.out]) HSH.out⟩
         exact AllReadyH.nil
        exact AllReadyH.nil
       exact AllReadyH.nil
      exact AllReadyH.nil
     exact AllReadyH.nil
    refine AllReadyH.cons (o:={ dst:=some 120,op:=Op.buildSlice 108 1 #[(0,Operand.tmp 119)],type:=108,pos:= "meaning.go:52",after:=#[{ on:=8,ground:=Ground.data }],guard:=none }) rfl (fun K hK=>?_) ?_
    ·skip
     go_simp
     refine hK.out _ _ ?_ (fun hHeld=>?_)
     ·exact ⟨hrAx,fdo⟩
     clear hK K hHeld
     (try simp only [Act.put,zzB,zzD,zzC])
     refine wpAnyH_ready (rs:=[4]) (by kernel_rfl) (by simp) ?_
     refine AllReadyH.cons (o:={ dst:=some 115,op:=Op.load 108 (Operand.tmp 114),type:=108,pos:= "meaning.go:52",after:=#[{ on:=3,ground:=Ground.data }],guard:=none }) rfl (fun K hK=>?_) ?_
     ·skip
      go_simp
      refine hK.out _ _ ?_ (fun hHeld=>?_)
      ·exact ⟨hrAx,fdo⟩
      clear hK K hHeld
      (try simp only [Act.put,zzB,zzD,zzC])
      refine wpAnyH_ready (rs:=[10]) (by kernel_rfl) (by simp) ?_
      refine AllReadyH.cons (o:={ dst:=some 121,op:=Op.call { callee:=Callee.builtin Builtin.append,args:=#[Operand.tmp 115,Operand.tmp 120],argTypes:=#[108,108] },type:=108,pos:= "meaning.go:52",after:=#[{ on:=4,ground:=Ground.data },{ on:=9,ground:=Ground.data },{ on:=8,ground:=Ground.chain }],guard:=none }) rfl (fun K hK=>?_) ?_
      ·skip
       refine step_append_reads rfl (.tmp 115) (.tmp 120) 108 rfl w1.heap.size 69 i0 (.pointer none) 1 8 Tryz.underlying108 hi hz0 hz1 hz2 rfl (by decide) (.slice A vs.length c) vs.length (uptrs vs) rfl HRA.out.row.own (some ⟨w6.heap.size,0,none⟩) _ 1 1 (uptrs [u6]) rfl (fun h=>by cases h) HNEW.out (fun x hx=>by simp only [uptrs,zzS,zzt,zzE] at hx;subst hx;rfl) (by unfold maxLen;omega) (by omega) HRA.out.row.base ?_;intro A7 c7 w7 ha7;have HA7:=zzA ha7;have hnb7:=HRA.out.row.blk.grown ha7.grown HRA.out.row.sep;have r5:=hnb7.cell 5;have f5:=hnb7.frozen 5;have hbo7:w7.cell? ⟨w.heap.size+3,0,none⟩=some (.pointer (some ⟨w.heap.size+2,0,none⟩)):=((Kept.of_grown' ha7.grown).cell (p:=⟨w.heap.size+3,0,none⟩) (zzQ HRA.out.ne.2.2.2.2.2 HRA.out.kept.size) (fun hm=>by have:=HRA.out.row.own_ge (w.heap.size+3) hm;have:=HRA.out.ne.2.2.2.2.2;omega)).trans HRA.out.co;have hr7x:=((Kept.of_grown' ha7.grown).cell (p:=⟨w.heap.size+1,0,none⟩) (zze _ _ HRA.out.cx) (fun hm=>by have:=HRA.out.row.own_ge (w.heap.size+1) hm;have:=HRA.out.ne;omega)).trans HRA.out.cx;clear ha7 hnb7;simp only [Act.put,List.getElem_toArray,List.getElem_cons_succ,List.getElem_cons_zero,zzB,zzD,zzC]
       refine hK.out _ _ ?_ (fun hHeld=>?_)
       ·exact ⟨hr7x,hbo7⟩
       clear hK K hHeld
       (try simp only [Act.put,zzB,zzD,zzC])
       refine wpAnyH_ready (rs:=[11]) (by kernel_rfl) (by simp) ?_
       refine AllReadyH.cons (o:={ dst:=some 122,op:=Op.nilCheck (Operand.tmp 111),type:=0,pos:= "meaning.go:52",after:=#[{ on:=0,ground:=Ground.data },{ on:=0,ground:=Ground.phase },{ on:=1,ground:=Ground.phase },{ on:=2,ground:=Ground.phase },{ on:=3,ground:=Ground.phase },{ on:=4,ground:=Ground.phase },{ on:=5,ground:=Ground.phase },{ on:=6,ground:=Ground.phase },{ on:=7,ground:=Ground.phase },{ on:=8,ground:=Ground.phase },{ on:=9,ground:=Ground.phase },{ on:=10,ground:=Ground.phase }],guard:=none }) rfl (fun K hK=>?_) ?_
       ·skip
        go_simp
        refine hK.out _ _ ?_ (fun hHeld=>?_)
        ·exact ⟨hr7x,hbo7⟩
        clear hK K hHeld
        (try simp only [Act.put,zzB,zzD,zzC])
        refine wpAnyH_ready (rs:=[12]) (by kernel_rfl) (by simp) ?_
        refine AllReadyH.cons (o:={ dst:=some 123,op:=Op.fieldAddr 110 (Operand.tmp 122) 5,type:=0,pos:= "meaning.go:52",after:=#[{ on:=11,ground:=Ground.data },{ on:=0,ground:=Ground.phase },{ on:=1,ground:=Ground.phase },{ on:=2,ground:=Ground.phase },{ on:=3,ground:=Ground.phase },{ on:=4,ground:=Ground.phase },{ on:=5,ground:=Ground.phase },{ on:=6,ground:=Ground.phase },{ on:=7,ground:=Ground.phase },{ on:=8,ground:=Ground.phase },{ on:=9,ground:=Ground.phase },{ on:=10,ground:=Ground.phase }],guard:=none }) rfl (fun K hK=>?_) ?_
        ·skip
         go_simp
         refine hK.out _ _ ?_ (fun hHeld=>?_)
         ·exact ⟨hr7x,hbo7⟩
         clear hK K hHeld
         (try simp only [Act.put,zzB,zzD,zzC])
         refine wpAnyH_ready (rs:=[13]) (by kernel_rfl) (by simp) ?_
         refine AllReadyH.cons (o:={ dst:=none,op:=Op.store 108 (Operand.tmp 123) (Operand.tmp 121),type:=0,pos:= "meaning.go:52",after:=#[{ on:=12,ground:=Ground.data },{ on:=10,ground:=Ground.data },{ on:=10,ground:=Ground.chain },{ on:=0,ground:=Ground.phase },{ on:=1,ground:=Ground.phase },{ on:=2,ground:=Ground.phase },{ on:=3,ground:=Ground.phase },{ on:=4,ground:=Ground.phase },{ on:=5,ground:=Ground.phase },{ on:=6,ground:=Ground.phase },{ on:=7,ground:=Ground.phase },{ on:=8,ground:=Ground.phase },{ on:=9,ground:=Ground.phase },{ on:=10,ground:=Ground.phase }],guard:=none }) rfl (fun K hK=>?_) ?_
         ·skip
          go_simp
          refine hK.out _ _ ?_ (fun hHeld=>?_)
          ·exact ⟨(zyG _ _ |>.cell (p:=⟨w.heap.size+1,0,none⟩) (zze _ _ hr7x) (by simp)).trans hr7x,(zyG _ _ |>.cell (p:=⟨w.heap.size+3,0,none⟩) (zze _ _ hbo7) (by simp)).trans hbo7⟩
          clear hK K hHeld
          (try simp only [Act.put,zzB,zzD,zzC])
          refine wpAnyH_done (by kernel_rfl) ?_ _
          exact NoPanic.normal ⟨rfl,_,rfl,rfl,rfl,plus_leaf HR2.out HUT6.out HB6.out HBA6.out HA7.out (by rw [HSH6.out,HSH5.out]) HSH.out⟩
         exact AllReadyH.nil
        exact AllReadyH.nil
       exact AllReadyH.nil
      exact AllReadyH.nil
     exact AllReadyH.nil
    exact AllReadyH.nil
   exact AllReadyH.nil
  exact AllReadyH.nil
 clear HXX r6 qx2 fao fan HSH HNE HR2
 intro e a' w9 hR
 obtain ⟨rfl,tm,ha,hsz,h8,A9,c9,us9,hrep,hsh9⟩:=hR
 obtain ⟨u0,tm0,em,hz0⟩:=cons_of hsz
 subst em
 obtain ⟨u1,tm1,em,hz1⟩:=cons_of hz0
 subst em
 clear hz0
 obtain ⟨u2,tm2,em,hz2⟩:=cons_of hz1
 subst em
 clear hz1
 obtain ⟨u3,tm3,em,hz3⟩:=cons_of hz2
 subst em
 clear hz2
 obtain ⟨u4,tm4,em,hz4⟩:=cons_of hz3
 subst em
 clear hz3
 obtain ⟨u5,tm5,em,hz5⟩:=cons_of hz4
 subst em
 clear hz4
 obtain ⟨u6,tm6,em,hz6⟩:=cons_of hz5
 subst em
 clear hz5
 obtain ⟨u7,tm7,em,hz7⟩:=cons_of hz6
 subst em
 clear hz6
 obtain ⟨u8,tm8,em,hz8⟩:=cons_of hz7
 subst em
 clear hz7
 obtain ⟨u9,tm9,em,hz9⟩:=cons_of hz8
 subst em
 clear hz8
 obtain ⟨u10,tm10,em,hz10⟩:=cons_of hz9
 subst em
 clear hz9
 obtain ⟨u11,tm11,em,hz11⟩:=cons_of hz10
 subst em
 clear hz10
 obtain ⟨u12,tm12,em,hz12⟩:=cons_of hz11
 subst em
 clear hz11
 obtain ⟨u13,tm13,em,hz13⟩:=cons_of hz12
 subst em
 clear hz12
 obtain ⟨u14,tm14,em,hz14⟩:=cons_of hz13
 subst em
 clear hz13
 obtain ⟨u15,tm15,em,hz15⟩:=cons_of hz14
 subst em
 clear hz14
 obtain ⟨u16,tm16,em,hz16⟩:=cons_of hz15
 subst em
 clear hz15
 obtain ⟨u17,tm17,em,hz17⟩:=cons_of hz16
 subst em
 clear hz16
 obtain ⟨u18,tm18,em,hz18⟩:=cons_of hz17
 subst em
 clear hz17
 obtain ⟨u19,tm19,em,hz19⟩:=cons_of hz18
 subst em
 clear hz18
 obtain ⟨u20,tm20,em,hz20⟩:=cons_of hz19
 subst em
 clear hz19
 obtain ⟨u21,tm21,em,hz21⟩:=cons_of hz20
 subst em
 clear hz20
 obtain ⟨u22,tm22,em,hz22⟩:=cons_of hz21
 subst em
 clear hz21
 obtain ⟨u23,tm23,em,hz23⟩:=cons_of hz22
 subst em
 clear hz22
 obtain ⟨u24,tm24,em,hz24⟩:=cons_of hz23
 subst em
 clear hz23
 obtain ⟨u25,tm25,em,hz25⟩:=cons_of hz24
 subst em
 clear hz24
 obtain ⟨u26,tm26,em,hz26⟩:=cons_of hz25
 subst em
 clear hz25
 obtain ⟨u27,tm27,em,hz27⟩:=cons_of hz26
 subst em
 clear hz26
 obtain ⟨u28,tm28,em,hz28⟩:=cons_of hz27
 subst em
 clear hz27
 obtain ⟨u29,tm29,em,hz29⟩:=cons_of hz28
 subst em
 clear hz28
 obtain ⟨u30,tm30,em,hz30⟩:=cons_of hz29
 subst em
 clear hz29
 obtain ⟨u31,tm31,em,hz31⟩:=cons_of hz30
 subst em
 clear hz30
 obtain ⟨u32,tm32,em,hz32⟩:=cons_of hz31
 subst em
 clear hz31
 obtain ⟨u33,tm33,em,hz33⟩:=cons_of hz32
 subst em
 clear hz32
 obtain ⟨u34,tm34,em,hz34⟩:=cons_of hz33
 subst em
 clear hz33
 obtain ⟨u35,tm35,em,hz35⟩:=cons_of hz34
 subst em
 clear hz34
 obtain ⟨u36,tm36,em,hz36⟩:=cons_of hz35
 subst em
 clear hz35
 obtain ⟨u37,tm37,em,hz37⟩:=cons_of hz36
 subst em
 clear hz36
 obtain ⟨u38,tm38,em,hz38⟩:=cons_of hz37
 subst em
 clear hz37
 obtain ⟨u39,tm39,em,hz39⟩:=cons_of hz38
 subst em
 clear hz38
 obtain ⟨u40,tm40,em,hz40⟩:=cons_of hz39
 subst em
 clear hz39
 obtain ⟨u41,tm41,em,hz41⟩:=cons_of hz40
 subst em
 clear hz40
 obtain ⟨u42,tm42,em,hz42⟩:=cons_of hz41
 subst em
 clear hz41
 obtain ⟨u43,tm43,em,hz43⟩:=cons_of hz42
 subst em
 clear hz42
 obtain ⟨u44,tm44,em,hz44⟩:=cons_of hz43
 subst em
 clear hz43
 obtain ⟨u45,tm45,em,hz45⟩:=cons_of hz44
 subst em
 clear hz44
 obtain ⟨u46,tm46,em,hz46⟩:=cons_of hz45
 subst em
 clear hz45
 obtain ⟨u47,tm47,em,hz47⟩:=cons_of hz46
 subst em
 clear hz46
 obtain ⟨u48,tm48,em,hz48⟩:=cons_of hz47
 subst em
 clear hz47
 obtain ⟨u49,tm49,em,hz49⟩:=cons_of hz48
 subst em
 clear hz48
 obtain ⟨u50,tm50,em,hz50⟩:=cons_of hz49
 subst em
 clear hz49
 obtain ⟨u51,tm51,em,hz51⟩:=cons_of hz50
 subst em
 clear hz50
 obtain ⟨u52,tm52,em,hz52⟩:=cons_of hz51
 subst em
 clear hz51
 obtain ⟨u53,tm53,em,hz53⟩:=cons_of hz52
 subst em
 clear hz52
 obtain ⟨u54,tm54,em,hz54⟩:=cons_of hz53
 subst em
 clear hz53
 obtain ⟨u55,tm55,em,hz55⟩:=cons_of hz54
 subst em
 clear hz54
 obtain ⟨u56,tm56,em,hz56⟩:=cons_of hz55
 subst em
 clear hz55
 obtain ⟨u57,tm57,em,hz57⟩:=cons_of hz56
 subst em
 clear hz56
 obtain ⟨u58,tm58,em,hz58⟩:=cons_of hz57
 subst em
 clear hz57
 obtain ⟨u59,tm59,em,hz59⟩:=cons_of hz58
 subst em
 clear hz58
 obtain ⟨u60,tm60,em,hz60⟩:=cons_of hz59
 subst em
 clear hz59
 obtain ⟨u61,tm61,em,hz61⟩:=cons_of hz60
 subst em
 clear hz60
 obtain ⟨u62,tm62,em,hz62⟩:=cons_of hz61
 subst em
 clear hz61
 obtain ⟨u63,tm63,em,hz63⟩:=cons_of hz62
 subst em
 clear hz62
 obtain ⟨u64,tm64,em,hz64⟩:=cons_of hz63
 subst em
 clear hz63
 obtain ⟨u65,tm65,em,hz65⟩:=cons_of hz64
 subst em
 clear hz64
 obtain ⟨u66,tm66,em,hz66⟩:=cons_of hz65
 subst em
 clear hz65
 obtain ⟨u67,tm67,em,hz67⟩:=cons_of hz66
 subst em
 clear hz66
 obtain ⟨u68,tm68,em,hz68⟩:=cons_of hz67
 subst em
 clear hz67
 obtain ⟨u69,tm69,em,hz69⟩:=cons_of hz68
 subst em
 clear hz68
 obtain ⟨u70,tm70,em,hz70⟩:=cons_of hz69
 subst em
 clear hz69
 obtain ⟨u71,tm71,em,hz71⟩:=cons_of hz70
 subst em
 clear hz70
 obtain ⟨u72,tm72,em,hz72⟩:=cons_of hz71
 subst em
 clear hz71
 obtain ⟨u73,tm73,em,hz73⟩:=cons_of hz72
 subst em
 clear hz72
 obtain ⟨u74,tm74,em,hz74⟩:=cons_of hz73
 subst em
 clear hz73
 obtain ⟨u75,tm75,em,hz75⟩:=cons_of hz74
 subst em
 clear hz74
 obtain ⟨u76,tm76,em,hz76⟩:=cons_of hz75
 subst em
 clear hz75
 obtain ⟨u77,tm77,em,hz77⟩:=cons_of hz76
 subst em
 clear hz76
 obtain ⟨u78,tm78,em,hz78⟩:=cons_of hz77
 subst em
 clear hz77
 obtain ⟨u79,tm79,em,hz79⟩:=cons_of hz78
 subst em
 clear hz78
 obtain ⟨u80,tm80,em,hz80⟩:=cons_of hz79
 subst em
 clear hz79
 obtain ⟨u81,tm81,em,hz81⟩:=cons_of hz80
 subst em
 clear hz80
 obtain ⟨u82,tm82,em,hz82⟩:=cons_of hz81
 subst em
 clear hz81
 obtain ⟨u83,tm83,em,hz83⟩:=cons_of hz82
 subst em
 clear hz82
 obtain ⟨u84,tm84,em,hz84⟩:=cons_of hz83
 subst em
 clear hz83
 obtain ⟨u85,tm85,em,hz85⟩:=cons_of hz84
 subst em
 clear hz84
 obtain ⟨u86,tm86,em,hz86⟩:=cons_of hz85
 subst em
 clear hz85
 obtain ⟨u87,tm87,em,hz87⟩:=cons_of hz86
 subst em
 clear hz86
 obtain ⟨u88,tm88,em,hz88⟩:=cons_of hz87
 subst em
 clear hz87
 obtain ⟨u89,tm89,em,hz89⟩:=cons_of hz88
 subst em
 clear hz88
 obtain ⟨u90,tm90,em,hz90⟩:=cons_of hz89
 subst em
 clear hz89
 obtain ⟨u91,tm91,em,hz91⟩:=cons_of hz90
 subst em
 clear hz90
 obtain ⟨u92,tm92,em,hz92⟩:=cons_of hz91
 subst em
 clear hz91
 obtain ⟨u93,tm93,em,hz93⟩:=cons_of hz92
 subst em
 clear hz92
 obtain ⟨u94,tm94,em,hz94⟩:=cons_of hz93
 subst em
 clear hz93
 obtain ⟨u95,tm95,em,hz95⟩:=cons_of hz94
 subst em
 clear hz94
 obtain ⟨u96,tm96,em,hz96⟩:=cons_of hz95
 subst em
 clear hz95
 obtain ⟨u97,tm97,em,hz97⟩:=cons_of hz96
 subst em
 clear hz96
 obtain ⟨u98,tm98,em,hz98⟩:=cons_of hz97
 subst em
 clear hz97
 obtain ⟨u99,tm99,em,hz99⟩:=cons_of hz98
 subst em
 clear hz98
 obtain ⟨u100,tm100,em,hz100⟩:=cons_of hz99
 subst em
 clear hz99
 obtain ⟨u101,tm101,em,hz101⟩:=cons_of hz100
 subst em
 clear hz100
 obtain ⟨u102,tm102,em,hz102⟩:=cons_of hz101
 subst em
 clear hz101
 obtain ⟨u103,tm103,em,hz103⟩:=cons_of hz102
 subst em
 clear hz102
 obtain ⟨u104,tm104,em,hz104⟩:=cons_of hz103
 subst em
 clear hz103
 obtain ⟨u105,tm105,em,hz105⟩:=cons_of hz104
 subst em
 clear hz104
 obtain ⟨u106,tm106,em,hz106⟩:=cons_of hz105
 subst em
 clear hz105
 obtain ⟨u107,tm107,em,hz107⟩:=cons_of hz106
 subst em
 clear hz106
 obtain ⟨u108,tm108,em,hz108⟩:=cons_of hz107
 subst em
 clear hz107
 obtain ⟨u109,tm109,em,hz109⟩:=cons_of hz108
 subst em
 clear hz108
 obtain ⟨u110,tm110,em,hz110⟩:=cons_of hz109
 subst em
 clear hz109
 obtain ⟨u111,tm111,em,hz111⟩:=cons_of hz110
 subst em
 clear hz110
 obtain ⟨u112,tm112,em,hz112⟩:=cons_of hz111
 subst em
 clear hz111
 obtain ⟨u113,tm113,em,hz113⟩:=cons_of hz112
 subst em
 clear hz112
 obtain ⟨u114,tm114,em,hz114⟩:=cons_of hz113
 subst em
 clear hz113
 obtain ⟨u115,tm115,em,hz115⟩:=cons_of hz114
 subst em
 clear hz114
 obtain ⟨u116,tm116,em,hz116⟩:=cons_of hz115
 subst em
 clear hz115
 obtain ⟨u117,tm117,em,hz117⟩:=cons_of hz116
 subst em
 clear hz116
 obtain ⟨u118,tm118,em,hz118⟩:=cons_of hz117
 subst em
 clear hz117
 obtain ⟨u119,tm119,em,hz119⟩:=cons_of hz118
 subst em
 clear hz118
 obtain ⟨u120,tm120,em,hz120⟩:=cons_of hz119
 subst em
 clear hz119
 obtain ⟨u121,tm121,em,hz121⟩:=cons_of hz120
 subst em
 clear hz120
 obtain ⟨u122,tm122,em,hz122⟩:=cons_of hz121
 subst em
 clear hz121
 obtain ⟨u123,tm123,em,hz123⟩:=cons_of hz122
 subst em
 clear hz122
 obtain ⟨u124,tm124,em,hz124⟩:=cons_of hz123
 subst em
 clear hz123
 obtain ⟨u125,tm125,em,hz125⟩:=cons_of hz124
 subst em
 clear hz124
 obtain ⟨u126,tm126,em,hz126⟩:=cons_of hz125
 subst em
 clear hz125
 obtain ⟨u127,tm127,em,hz127⟩:=cons_of hz126
 subst em
 clear hz126
 obtain ⟨u128,tm128,em,hz128⟩:=cons_of hz127
 subst em
 clear hz127
 obtain ⟨u129,tm129,em,hz129⟩:=cons_of hz128
 subst em
 clear hz128
 obtain ⟨u130,tm130,em,hz130⟩:=cons_of hz129
 subst em
 clear hz129
 obtain ⟨u131,tm131,em,hz131⟩:=cons_of hz130
 subst em
 clear hz130
 obtain ⟨u132,tm132,em,hz132⟩:=cons_of hz131
 subst em
 clear hz131
 obtain rfl:tm132=[]:=zzq hz132
 clear hz132
 simp only [zzX,zzR,zzd] at h8
 subst h8
 subst ha
 have hl9:us9.length=m0+1:=by have:=congrArg List.length hsh9;rw [shUs_map,zzP] at this;simpa using this
 have en:w9.cell? ⟨w.heap.size+2,5,none⟩=some (.slice A9 us9.length c9):=hrep.row.blk.cell 5
 have eo:w9.cell? ⟨w.heap.size+3,0,none⟩=some (.pointer (some ⟨w.heap.size+2,0,none⟩)):=hrep.co
 rw [hl9] at en
 have hl3:(((m0+1:Nat):Int)==0)=false:=zzh.2 (by omega)
 have hl2:((m0:Int)+1==0)=false:=zzh.2 (by omega)
 have HREP:=zzA hrep
 have HDN:=zzA (RowU.done (k:=4) (r:=[]) (ra:=none) (rc:=0) (a:=0) (i:=0) (z:=false) (us:=us9) (A:=A9) (c:=c9) hrep.row RdA.none_ (B0:=w.heap.size) HB1.out.size (by omega))
 have HSH9:=zzA hsh9
 clear hrep hsh9 hl9
 go_wp2_with fail
 go_ret
 refine ⟨_,rfl,?_,HDN.out,zyH HB1.out HREP.out.kept (by simp) HB1.out.size⟩
 rw [HU.out,shU,HSH9.out,repU,if_pos rfl,if_neg (by omega),hm2]
 rfl
end Go.Proofs.YtgkclnmmjedmkaaGreat
