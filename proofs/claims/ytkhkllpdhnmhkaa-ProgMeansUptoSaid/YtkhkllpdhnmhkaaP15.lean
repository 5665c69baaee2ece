/- heronref06's Tree.repeat: any number of times. -/
import Derived.Test.YtkhkllpdhnmhkaaP14
namespace Go.Proofs.Ytkhkllpdhnmhkaa
open Go.RowKit Mean
set_option maxRecDepth 100000 in
set_option maxHeartbeats 4000000 in
theorem rrep_star (X:List Nat) (rb:Nat) (k:Int) (r:List (Int × Int)) (ra:Option Addr) (rc:Nat) (ast:Int) (sa:Option Addr) (sc:Nat) (mn mx:Int) (z:Bool) (ix:Int) (nm:ByteArray) (s:Ta) (v:Value) (L:List NdV) (w:World)  (H0:UnfOk6 s) (h:RT w (Fs X rb v w) (Ta.mk k r ra rc ast [s] sa sc (0) ((-1)) z ix nm)) (htb:TbR X rb v L w) (hsz:L.length+szU (loopU (-2) z (unfR s.tr))≤1000000000) :
  Calls Try.prog 37 #[.pointer (some ⟨rb,0,none⟩),(Ta.mk k r ra rc ast [s] sa sc (0) ((-1)) z ix nm).val] w fun e w'=>∃ v' L' u,e=.returned (.int .i64 (u.ad:Int))∧TbR X rb v' L' w'∧RKI rb v w v' w'∧BuiltL L L' [u]∧shU u=loopU (-2) z (unfR s.tr):=by
 obtain ⟨-,hN,hL⟩:=h.parts
 have hs:=hL s (zzE.2 rfl)
 have hb0:Below w.heap.size w (w.alloc (.cells #[.int .i64 k,.slice ra r.length rc,.int .i64 ast,.slice sa 1 sc,.int .i64 0,.int .i64 (-1),.bool z,.int .i64 ix,.string nm] 25)):=(zzb _ _).alloc (zzF _) _
 have hnb:=htb.new 25 [.int .i64 k,.slice ra r.length rc,.int .i64 ast,.slice sa 1 sc,.int .i64 0,.int .i64 (-1),.bool z,.int .i64 ix,.string nm]
 have hbl:=hnb.blk
 obtain ⟨bs,os,rfl,hbs,hcs⟩:=hN.2.2.2.2 (by simp)
 have hsc:=hN.1
 have hsc2:=hN.2.1
 simp only [zzO,List.length_nil,Nat.zero_add] at hsc
 cases s with
 | mk k2 r2 ra2 rc2 a2 l2 sa2 sc2 mn2 mx2 z2 ix2 nm2 =>
 have hkk:RKI rb v w v (w.alloc (.cells #[.int .i64 k,.slice ra r.length rc,.int .i64 ast,.slice (some ⟨bs,os,none⟩) 1 sc,.int .i64 0,.int .i64 (-1),.bool z,.int .i64 ix,.string nm] 25)):=.of_below hb0
 have hc:∀ q u,(Ta.mk k2 r2 ra2 rc2 a2 l2 sa2 sc2 mn2 mx2 z2 ix2 nm2).vals[q]?=some u→(w.alloc (.cells #[.int .i64 k,.slice ra r.length rc,.int .i64 ast,.slice (some ⟨bs,os,none⟩) 1 sc,.int .i64 0,.int .i64 (-1),.bool z,.int .i64 ix,.string nm] 25)).cell? ⟨bs,os+q,none⟩=some u:=fun q u hq=>(hb0.cell (p:=⟨bs,os+q,none⟩) hbs.1).trans (hcs q u (by simp only [rowT,zzY];exact hq))
 have sr0:=hc 0 _ rfl
 have sr1:=hc 1 _ rfl
 have sr2:=hc 2 _ rfl
 have sr3:=hc 3 _ rfl
 have sr4:=hc 4 _ rfl
 have sr5:=hc 5 _ rfl
 have sr6:=hc 6 _ rfl
 have sr7:=hc 7 _ rfl
 have sr8:=hc 8 _ rfl
 simp only [Nat.add_zero] at sr0
 obtain ⟨xr0,xr1,xr2,xr3,xr4,xr5,xr6,xr7,xr8⟩:=bc9 (hbl)
 have hT1:=(htb.below hb0)
 have hNB1:=hT1.new 25 [.int .i64 k2,.slice ra2 r2.length rc2,.int .i64 a2,.slice sa2 l2.length sc2,.int .i64 mn2,.int .i64 mx2,.bool z2,.int .i64 ix2,.string nm2]
 have hb1:Below (w.alloc (.cells #[.int .i64 k,.slice ra r.length rc,.int .i64 ast,.slice (some ⟨bs,os,none⟩) 1 sc,.int .i64 0,.int .i64 (-1),.bool z,.int .i64 ix,.string nm] 25)).heap.size (w.alloc (.cells #[.int .i64 k,.slice ra r.length rc,.int .i64 ast,.slice (some ⟨bs,os,none⟩) 1 sc,.int .i64 0,.int .i64 (-1),.bool z,.int .i64 ix,.string nm] 25)) ((w.alloc (.cells #[.int .i64 k,.slice ra r.length rc,.int .i64 ast,.slice (some ⟨bs,os,none⟩) 1 sc,.int .i64 0,.int .i64 (-1),.bool z,.int .i64 ix,.string nm] 25)).alloc (.cells #[.int .i64 k2,.slice ra2 r2.length rc2,.int .i64 a2,.slice sa2 l2.length sc2,.int .i64 mn2,.int .i64 mx2,.bool z2,.int .i64 ix2,.string nm2] 25)):=(zzb _ _).alloc (zzF _) _
 rw [show (w.alloc (.cells #[.int .i64 k,.slice ra r.length rc,.int .i64 ast,.slice (some ⟨bs,os,none⟩) 1 sc,.int .i64 0,.int .i64 (-1),.bool z,.int .i64 ix,.string nm] 25)).heap.size=w.heap.size+1 from by simp] at hNB1
 have HT:=zzA (hT1.below hb1)
 have hk1:RKI rb v w v ((w.alloc (.cells #[.int .i64 k,.slice ra r.length rc,.int .i64 ast,.slice (some ⟨bs,os,none⟩) 1 sc,.int .i64 0,.int .i64 (-1),.bool z,.int .i64 ix,.string nm] 25)).alloc (.cells #[.int .i64 k2,.slice ra2 r2.length rc2,.int .i64 a2,.slice sa2 l2.length sc2,.int .i64 mn2,.int .i64 mx2,.bool z2,.int .i64 ix2,.string nm2] 25)):=hkk.trans (.of_below hb1)
 have HK:=zzA hk1
 have HRT:=zzA (hs.rki hk1)
 have HNX:=zzA ((show RKI rb v (w.alloc (.cells #[.int .i64 k,.slice ra r.length rc,.int .i64 ast,.slice (some ⟨bs,os,none⟩) 1 sc,.int .i64 0,.int .i64 (-1),.bool z,.int .i64 ix,.string nm] 25)) v ((w.alloc (.cells #[.int .i64 k,.slice ra r.length rc,.int .i64 ast,.slice (some ⟨bs,os,none⟩) 1 sc,.int .i64 0,.int .i64 (-1),.bool z,.int .i64 ix,.string nm] 25)).alloc (.cells #[.int .i64 k2,.slice ra2 r2.length rc2,.int .i64 a2,.slice sa2 l2.length sc2,.int .i64 mn2,.int .i64 mx2,.bool z2,.int .i64 ix2,.string nm2] 25)) from .of_below hb1).nb hnb)
 have HNY:=zzA hNB1
 have HU:=zzA H0
 have hxx:=HNX.out.blk
 have hyy:=HNY.out.blk
 obtain ⟨xs0,xs1,xs2,xs3,xs4,xs5,xs6,xs7,xs8⟩:=bc9 (hxx)
 obtain ⟨ys0,ys1,ys2,ys3,ys4,ys5,ys6,ys7,ys8⟩:=bc9 (hyy)
 obtain ⟨tt,htt⟩:∃ tt,tt=unfR (Ta.mk k2 r2 ra2 rc2 a2 l2 sa2 sc2 mn2 mx2 z2 ix2 nm2).tr:=⟨_,rfl⟩
 unfold UnfOk6 at HU
 rw [←htt] at HU hsz ⊢
 simp only [Ta.val,Ta.vals] at HU
 simp only [Ta.val,Ta.vals,zzO,List.length_nil,Nat.zero_add]
 clear h hN hL hs hb0 hnb hbl hcs hbs hkk hc hT1 hNB1 hb1 hk1 htt hxx hyy htb H0
 go_enter Try.func37,Try.ntmps37
 go_wp2_with fail
 have hsz2:L.length+szU tt+1≤1000000000:=by rw [loopU,szU,szUs,szUs] at hsz;omega
 clear xr0 xr1 xr2 xr3 xr4 xr5 xr6 xr7 xr8 sr0 sr1 sr2 sr3 sr4 sr5 sr6 sr7 sr8 hsz
 have kA:=(show ((w.alloc (.cells #[.int .i64 k,.slice ra r.length rc,.int .i64 ast,.slice (some ⟨bs,os,none⟩) 1 sc,.int .i64 0,.int .i64 (-1),.bool z,.int .i64 ix,.string nm] 25)).alloc (.cells #[.int .i64 k2,.slice ra2 r2.length rc2,.int .i64 a2,.slice sa2 l2.length sc2,.int .i64 mn2,.int .i64 mx2,.bool z2,.int .i64 ix2,.string nm2] 25)).cell? ⟨w.heap.size+1,0,none⟩=some (.int .i64 k2)∧((w.alloc (.cells #[.int .i64 k,.slice ra r.length rc,.int .i64 ast,.slice (some ⟨bs,os,none⟩) 1 sc,.int .i64 0,.int .i64 (-1),.bool z,.int .i64 ix,.string nm] 25)).alloc (.cells #[.int .i64 k2,.slice ra2 r2.length rc2,.int .i64 a2,.slice sa2 l2.length sc2,.int .i64 mn2,.int .i64 mx2,.bool z2,.int .i64 ix2,.string nm2] 25)).cell? ⟨w.heap.size+1,1,none⟩=some (.slice ra2 r2.length rc2)∧((w.alloc (.cells #[.int .i64 k,.slice ra r.length rc,.int .i64 ast,.slice (some ⟨bs,os,none⟩) 1 sc,.int .i64 0,.int .i64 (-1),.bool z,.int .i64 ix,.string nm] 25)).alloc (.cells #[.int .i64 k2,.slice ra2 r2.length rc2,.int .i64 a2,.slice sa2 l2.length sc2,.int .i64 mn2,.int .i64 mx2,.bool z2,.int .i64 ix2,.string nm2] 25)).cell? ⟨w.heap.size+1,2,none⟩=some (.int .i64 a2)∧((w.alloc (.cells #[.int .i64 k,.slice ra r.length rc,.int .i64 ast,.slice (some ⟨bs,os,none⟩) 1 sc,.int .i64 0,.int .i64 (-1),.bool z,.int .i64 ix,.string nm] 25)).alloc (.cells #[.int .i64 k2,.slice ra2 r2.length rc2,.int .i64 a2,.slice sa2 l2.length sc2,.int .i64 mn2,.int .i64 mx2,.bool z2,.int .i64 ix2,.string nm2] 25)).cell? ⟨w.heap.size+1,3,none⟩=some (.slice sa2 l2.length sc2)∧((w.alloc (.cells #[.int .i64 k,.slice ra r.length rc,.int .i64 ast,.slice (some ⟨bs,os,none⟩) 1 sc,.int .i64 0,.int .i64 (-1),.bool z,.int .i64 ix,.string nm] 25)).alloc (.cells #[.int .i64 k2,.slice ra2 r2.length rc2,.int .i64 a2,.slice sa2 l2.length sc2,.int .i64 mn2,.int .i64 mx2,.bool z2,.int .i64 ix2,.string nm2] 25)).cell? ⟨w.heap.size+1,4,none⟩=some (.int .i64 mn2)∧((w.alloc (.cells #[.int .i64 k,.slice ra r.length rc,.int .i64 ast,.slice (some ⟨bs,os,none⟩) 1 sc,.int .i64 0,.int .i64 (-1),.bool z,.int .i64 ix,.string nm] 25)).alloc (.cells #[.int .i64 k2,.slice ra2 r2.length rc2,.int .i64 a2,.slice sa2 l2.length sc2,.int .i64 mn2,.int .i64 mx2,.bool z2,.int .i64 ix2,.string nm2] 25)).cell? ⟨w.heap.size+1,5,none⟩=some (.int .i64 mx2)∧((w.alloc (.cells #[.int .i64 k,.slice ra r.length rc,.int .i64 ast,.slice (some ⟨bs,os,none⟩) 1 sc,.int .i64 0,.int .i64 (-1),.bool z,.int .i64 ix,.string nm] 25)).alloc (.cells #[.int .i64 k2,.slice ra2 r2.length rc2,.int .i64 a2,.slice sa2 l2.length sc2,.int .i64 mn2,.int .i64 mx2,.bool z2,.int .i64 ix2,.string nm2] 25)).cell? ⟨w.heap.size+1,6,none⟩=some (.bool z2)∧((w.alloc (.cells #[.int .i64 k,.slice ra r.length rc,.int .i64 ast,.slice (some ⟨bs,os,none⟩) 1 sc,.int .i64 0,.int .i64 (-1),.bool z,.int .i64 ix,.string nm] 25)).alloc (.cells #[.int .i64 k2,.slice ra2 r2.length rc2,.int .i64 a2,.slice sa2 l2.length sc2,.int .i64 mn2,.int .i64 mx2,.bool z2,.int .i64 ix2,.string nm2] 25)).cell? ⟨w.heap.size+1,7,none⟩=some (.int .i64 ix2)∧((w.alloc (.cells #[.int .i64 k,.slice ra r.length rc,.int .i64 ast,.slice (some ⟨bs,os,none⟩) 1 sc,.int .i64 0,.int .i64 (-1),.bool z,.int .i64 ix,.string nm] 25)).alloc (.cells #[.int .i64 k2,.slice ra2 r2.length rc2,.int .i64 a2,.slice sa2 l2.length sc2,.int .i64 mn2,.int .i64 mx2,.bool z2,.int .i64 ix2,.string nm2] 25)).cell? ⟨w.heap.size+1,8,none⟩=some (.string nm2)∧((w.alloc (.cells #[.int .i64 k,.slice ra r.length rc,.int .i64 ast,.slice (some ⟨bs,os,none⟩) 1 sc,.int .i64 0,.int .i64 (-1),.bool z,.int .i64 ix,.string nm] 25)).alloc (.cells #[.int .i64 k2,.slice ra2 r2.length rc2,.int .i64 a2,.slice sa2 l2.length sc2,.int .i64 mn2,.int .i64 mx2,.bool z2,.int .i64 ix2,.string nm2] 25)).cell? ⟨w.heap.size,6,none⟩=some (.bool z) from ⟨HNY.out.blk.cell 0,HNY.out.blk.cell 1,HNY.out.blk.cell 2,HNY.out.blk.cell 3,HNY.out.blk.cell 4,HNY.out.blk.cell 5,HNY.out.blk.cell 6,HNY.out.blk.cell 7,HNY.out.blk.cell 8,HNX.out.blk.cell 6⟩)
 clear xs0 xs1 xs2 xs3 xs4 xs5 xs6 xs7 xs8 ys0 ys1 ys2 ys3 ys4 ys5 ys6 ys7 ys8
 generalize ((w.alloc (.cells #[.int .i64 k,.slice ra r.length rc,.int .i64 ast,.slice (some ⟨bs,os,none⟩) 1 sc,.int .i64 0,.int .i64 (-1),.bool z,.int .i64 ix,.string nm] 25)).alloc (.cells #[.int .i64 k2,.slice ra2 r2.length rc2,.int .i64 a2,.slice sa2 l2.length sc2,.int .i64 mn2,.int .i64 mx2,.bool z2,.int .i64 ix2,.string nm2] 25))=w1 at *
 refine wp_region_held_drew (S:=(fun u=>u.cell? ⟨w.heap.size+1,0,none⟩=some (.int .i64 k2)∧u.cell? ⟨w.heap.size+1,1,none⟩=some (.slice ra2 r2.length rc2)∧u.cell? ⟨w.heap.size+1,2,none⟩=some (.int .i64 a2)∧u.cell? ⟨w.heap.size+1,3,none⟩=some (.slice sa2 l2.length sc2)∧u.cell? ⟨w.heap.size+1,4,none⟩=some (.int .i64 mn2)∧u.cell? ⟨w.heap.size+1,5,none⟩=some (.int .i64 mx2)∧u.cell? ⟨w.heap.size+1,6,none⟩=some (.bool z2)∧u.cell? ⟨w.heap.size+1,7,none⟩=some (.int .i64 ix2)∧u.cell? ⟨w.heap.size+1,8,none⟩=some (.string nm2)∧u.cell? ⟨w.heap.size,6,none⟩=some (.bool z))) (by kernel_rfl) kA (fun hS0=>?_)
 refine wpAnyH_take (i:=0) (oi:={ dst:=some 21,op:=Op.move (Operand.tmp 0),type:=65,pos:= "ref.go:101",after:=#[],guard:=none }) (v:=?_) rfl (by kernel_rfl) (by kernel_rfl) (by kernel_rfl) (fun _ _ _ h=>h) (Or.inl ⟨by rfl,?_⟩) (by assumption) ?_
 rotate_left
 ·intro w hSw;(try dsimp only at hSw);go_simp;(try with_reducible rfl)
 (try simp only [Act.put,zzB,zzD,zzC])
 refine wpAnyH_take (i:=1) (oi:={ dst:=some 22,op:=Op.move (Operand.tmp 0),type:=65,pos:= "ref.go:101",after:=#[],guard:=none }) (v:=?_) rfl (by kernel_rfl) (by kernel_rfl) (by kernel_rfl) (fun _ _ _ h=>h) (Or.inl ⟨by rfl,?_⟩) (by assumption) ?_
 rotate_left
 ·intro w hSw;(try dsimp only at hSw);go_simp;(try with_reducible rfl)
 (try simp only [Act.put,zzB,zzD,zzC])
 refine wpAnyH_take (i:=2) (oi:={ dst:=some 23,op:=Op.load 25 (Operand.tmp 5),type:=25,pos:= "ref.go:101",after:=#[],guard:=none }) (v:=?_) rfl (by kernel_rfl) (by kernel_rfl) (by kernel_rfl) (fun _ _ _ h=>h) (Or.inl ⟨by rfl,?_⟩) (by assumption) ?_
 rotate_left
 ·intro w hSw;(try dsimp only at hSw);go_simp;(try with_reducible rfl)
 (try simp only [Act.put,zzB,zzD,zzC])
 refine wpAnyH_take (i:=5) (oi:={ dst:=some 26,op:=Op.fieldAddr 25 (Operand.tmp 3) 6,type:=0,pos:= "ref.go:101",after:=#[],guard:=none }) (v:=?_) rfl (by kernel_rfl) (by kernel_rfl) (by kernel_rfl) (fun _ _ _ h=>h) (Or.inl ⟨by rfl,?_⟩) (by assumption) ?_
 rotate_left
 ·intro w hSw;(try dsimp only at hSw);go_simp;(try with_reducible rfl)
 (try simp only [Act.put,zzB,zzD,zzC])
 refine wpAnyH_take (i:=6) (oi:={ dst:=some 27,op:=Op.load 4 (Operand.tmp 26),type:=4,pos:= "ref.go:101",after:=#[{ on:=5,ground:=Ground.data }],guard:=none }) (v:=?_) rfl (by kernel_rfl) (by kernel_rfl) (by kernel_rfl) (fun _ _ _ h=>h) (Or.inl ⟨by rfl,?_⟩) (by assumption) ?_
 rotate_left
 ·intro w hSw;(try dsimp only at hSw);go_simp;(try with_reducible rfl)
 (try simp only [Act.put,zzB,zzD,zzC])
 refine wpAnyH_ready (rs:=[3]) (by kernel_rfl) (by simp) ?_
 refine AllReadyH.cons (o:={ dst:=some 24,op:=Op.call { callee:=Callee.value (Operand.func 25),args:=#[Operand.tmp 22,Operand.tmp 23],argTypes:=#[65,25] },type:=3,pos:= "ref.go:101",after:=#[{ on:=1,ground:=Ground.data },{ on:=2,ground:=Ground.data }],guard:=none }) rfl (fun K hK=>?_) ?_
 ·skip
  refine step_call6 rfl 25 (.tmp 22) (.tmp 23) 65 25 rfl _ _ rfl rfl (enters6 Try.func25 (by kernel_rfl) (by kernel_rfl)) ?_
  refine (HU.out (X) rb v L w1.drew (HRT.out.rki (.of_below (zzb _ _).drew)) (HT.out.drew) (by omega)).mono ?_
  rintro e w2 ⟨v2,L2,u2,rfl,ht2,hk2,hb2,hs2⟩
  have hkd:RKI rb v w1 v2 w2:=(show RKI rb v w1 v w1.drew from .of_below (zzb _ _).drew).trans hk2
  have HK2:=zzA (HK.out.trans hkd)
  have HKD:=zzA hkd
  have HB2:=zzA hb2
  have HS2:=zzA hs2
  have HA2:=zzA (Acc.single ht2 u2.ad)
  have hbw:Below w2.heap.size w2 (w2.alloc (.cells #[.int .i64 (u2.ad:Int)] 3)):=(zzb _ _).alloc (zzF _) _
  have hkw:RKI rb v2 w2 v2 (w2.alloc (.cells #[.int .i64 (u2.ad:Int)] 3)):=.of_below hbw
  have HKW:=zzA hkw
  have HNX2:=zzA (hkd.nb HNX.out)
  have HNY2:=zzA (hkd.nb HNY.out)
  have HNX3:=zzA (hkw.nb HNX2.out)
  have HNY3:=zzA (hkw.nb HNY2.out)
  have hL2:L2.length≤1000000000:=by have:=hb2.len;rw [allU_one,all_len,hs2] at this;omega
  clear ht2 hk2 hb2 hs2 hbw hkw hkd
  refine ⟨_,rfl,?_⟩
  refine hK.out _ _ ?_ (fun hHeld=>?_)
  ·exact ⟨HNY2.out.blk.cell 0,HNY2.out.blk.cell 1,HNY2.out.blk.cell 2,HNY2.out.blk.cell 3,HNY2.out.blk.cell 4,HNY2.out.blk.cell 5,HNY2.out.blk.cell 6,HNY2.out.blk.cell 7,HNY2.out.blk.cell 8,HNX2.out.blk.cell 6⟩
  clear hK K hHeld
  (try simp only [Act.put,zzB,zzD,zzC])
  refine wpAnyH_ready (rs:=[4]) (by kernel_rfl) (by simp) ?_
  refine AllReadyH.cons (o:={ dst:=some 25,op:=Op.buildSlice 26 1 #[(0,Operand.tmp 24)],type:=26,pos:= "ref.go:101",after:=#[{ on:=3,ground:=Ground.data }],guard:=none }) rfl (fun K hK=>?_) ?_
  ·skip
   go_simp
   refine hK.out _ _ ?_ (fun hHeld=>?_)
   ·exact ⟨HNY3.out.blk.cell 0,HNY3.out.blk.cell 1,HNY3.out.blk.cell 2,HNY3.out.blk.cell 3,HNY3.out.blk.cell 4,HNY3.out.blk.cell 5,HNY3.out.blk.cell 6,HNY3.out.blk.cell 7,HNY3.out.blk.cell 8,HNX3.out.blk.cell 6⟩
   clear hK K hHeld
   (try simp only [Act.put,zzB,zzD,zzC])
   refine wpAnyH_ready (rs:=[7]) (by kernel_rfl) (by simp) ?_
   refine AllReadyH.cons (o:={ dst:=some 28,op:=Op.build 87 #[(0,Operand.const (Value.int IntKind.i64 101)),(4,Operand.tmp 25),(5,Operand.tmp 27)],type:=87,pos:= "ref.go:101",after:=#[{ on:=4,ground:=Ground.data },{ on:=6,ground:=Ground.data }],guard:=none }) rfl (fun K hK=>?_) ?_
   ·skip
    go_simp
    refine hK.out _ _ ?_ (fun hHeld=>?_)
    ·exact ⟨HNY3.out.blk.cell 0,HNY3.out.blk.cell 1,HNY3.out.blk.cell 2,HNY3.out.blk.cell 3,HNY3.out.blk.cell 4,HNY3.out.blk.cell 5,HNY3.out.blk.cell 6,HNY3.out.blk.cell 7,HNY3.out.blk.cell 8,HNX3.out.blk.cell 6⟩
    clear hK K hHeld
    (try simp only [Act.put,zzB,zzD,zzC])
    refine wpAnyH_ready (rs:=[8]) (by kernel_rfl) (by simp) ?_
    refine AllReadyH.cons (o:={ dst:=some 29,op:=Op.call { callee:=Callee.value (Operand.func 38),args:=#[Operand.tmp 21,Operand.tmp 28],argTypes:=#[65,87] },type:=3,pos:= "ref.go:101",after:=#[{ on:=0,ground:=Ground.data },{ on:=7,ground:=Ground.data },{ on:=3,ground:=Ground.chain }],guard:=none }) rfl (fun K hK=>?_) ?_
    ·skip
     obtain ⟨ht3,hr3⟩:=Acc.rda (l:=[u2.ad]) HA2.out
     have hp:=rput_any rb ⟨101,0,0,none,0,[],some ⟨w2.heap.size,0,none⟩,1,[u2.ad],z,0,0⟩ v2 L2 (w2.alloc (.cells #[.int .i64 (u2.ad:Int)] 3)) ht3 hL2 RdA.none_ hr3 (fun j hj=>by rw [zzE] at hj;rw [hj];exact (HB2.out.ads u2 (by rw [allU_one];exact self_all u2)).2)
     simp only [zzO,List.length_nil,Nat.zero_add] at hp
     refine step_call6 rfl 38 (.tmp 21) (.tmp 28) 65 87 rfl _ _ rfl rfl (enters6 Try.func38 (by kernel_rfl) (by kernel_rfl)) ?_
     refine hp.mono ?_
     rintro e w4 ⟨rfl,v4,ht4,hk4⟩
     have HT4:=zzA ht4
     have HK4:=zzA (HK2.out.trans (HKW.out.trans hk4))
     have HNX4:=zzA (hk4.nb HNX3.out)
     have HNY4:=zzA (hk4.nb HNY3.out)
     have HKE:=zzA (HKD.out.trans (HKW.out.trans hk4))
     clear ht3 hr3 hp ht4 hk4
     refine ⟨_,rfl,?_⟩
     refine hK.out _ _ ?_ (fun hHeld=>?_)
     ·exact ⟨HNY4.out.blk.cell 0,HNY4.out.blk.cell 1,HNY4.out.blk.cell 2,HNY4.out.blk.cell 3,HNY4.out.blk.cell 4,HNY4.out.blk.cell 5,HNY4.out.blk.cell 6,HNY4.out.blk.cell 7,HNY4.out.blk.cell 8,HNX4.out.blk.cell 6⟩
     clear hK K hHeld
     (try simp only [Act.put,zzB,zzD,zzC])
     refine wpAnyH_ready (rs:=[9]) (by kernel_rfl) (by simp) ?_
     refine AllReadyH.cons (o:={ dst:=some 4,op:=Op.assign (Operand.tmp 29),type:=3,pos:= "ref.go:101",after:=#[{ on:=8,ground:=Ground.data },{ on:=8,ground:=Ground.chain },{ on:=0,ground:=Ground.phase },{ on:=1,ground:=Ground.phase },{ on:=2,ground:=Ground.phase },{ on:=3,ground:=Ground.phase },{ on:=4,ground:=Ground.phase },{ on:=5,ground:=Ground.phase },{ on:=6,ground:=Ground.phase },{ on:=7,ground:=Ground.phase },{ on:=8,ground:=Ground.phase }],guard:=none }) rfl (fun K hK=>?_) ?_
     ·skip
      go_simp
      refine hK.out _ _ ?_ (fun hHeld=>?_)
      ·exact ⟨HNY4.out.blk.cell 0,HNY4.out.blk.cell 1,HNY4.out.blk.cell 2,HNY4.out.blk.cell 3,HNY4.out.blk.cell 4,HNY4.out.blk.cell 5,HNY4.out.blk.cell 6,HNY4.out.blk.cell 7,HNY4.out.blk.cell 8,HNX4.out.blk.cell 6⟩
      clear hK K hHeld
      (try simp only [Act.put,zzB,zzD,zzC])
      refine wpAnyH_done (by kernel_rfl) ?_ _
      go_wp2_with fail
      go_ret
      refine ⟨v4,_,.mk L2.length (-2) [] 0 0 z [u2],rfl,HT4.out,HK4.out,HB2.out.put (x:=⟨101,0,0,none,0,[],some ⟨w2.heap.size,0,none⟩,1,[u2.ad],z,0,0⟩) (k:=-2) rfl rfl,?_⟩
      show Us.mk (-2) [] 0 0 z (shUs [u2])=loopU (-2) z tt
      rw [shUs,shUs,HS2.out];rfl
     exact AllReadyH.nil
    exact AllReadyH.nil
   exact AllReadyH.nil
  exact AllReadyH.nil
 exact AllReadyH.nil
end Go.Proofs.Ytkhkllpdhnmhkaa
namespace Go.Proofs.Ytkhkllpdhnmhkaa
open Go.RowKit Mean
theorem sz_row_ge (l:List Us):szUs l≤szU (rowU l):=by
 match l with
 | []=>exact zzZ _
 | [x]=>show szUs [x]≤szU x;rw [szUs,szUs];omega
 | x :: y :: l=>show szUs (x :: y :: l)≤szU (catU (x :: y :: l));rw [catU,szU];omega
theorem built_len {L L':List NdV} {us:List Un} {S:List Us} (h:BuiltL L L' us) (hs:us.map shU=S):L'.length=L.length+szUs S:=by rw [h.len,alls_len,shUs_map,hs]
theorem rep_eqb {x:Us} {mn:Int} {z:Bool} {m0:Nat} (h:mn=(m0:Int)+1):repR x mn (-1) z=rowU (List.replicate m0 x++[loopU (-3) z x]):=by
 unfold repR
 rw [if_pos rfl,if_neg (by omega),show (mn - 1).toNat=m0 from by omega]
theorem rep_eqc {x:Us} {mn mx:Int} {z:Bool} {m0:Nat} (h:mn=(m0:Int)) (hx:mx=mn):repR x mn mx z=rowU (List.replicate m0 x):=by
 unfold repR
 rw [if_neg (by omega),if_neg (by omega),zzY,show mn.toNat=m0 from by omega]
theorem rep_eqd {x:Us} {mn mx:Int} {z:Bool} {m0 d0:Nat} (h:mn=(m0:Int)) (hd:mx=mn+(d0:Int)+1):repR x mn mx z=rowU (List.replicate m0 x++[optU z x d0]):=by
 unfold repR
 rw [if_neg (by omega),if_pos (by omega),show mn.toNat=m0 from by omega,show (mx - mn - 1).toNat=d0 from by omega]
theorem rep_many {x:Us} (m:Nat) (l:List Us):m≤szUs (List.replicate m x++l):=by
 rw [szUs_append,szUs_rep]
 have:=Nat.mul_le_mul_left m (szU_pos x)
 omega
theorem rep_bdb {x:Us} {mn:Int} {z:Bool} {m0 q:Nat} (h:mn=(m0:Int)+1) (hs:q+szU (repR x mn (-1) z)≤1000000000):mn≤1000000001:=by
 rw [rep_eqb h] at hs
 have:=rep_many (x:=x) m0 [loopU (-3) z x]
 have:=sz_row_ge (List.replicate m0 x++[loopU (-3) z x])
 omega
theorem rep_bdc {x:Us} {mn mx:Int} {z:Bool} {m0 q:Nat} (h:mn=(m0:Int)) (hx:mx=mn) (hs:q+szU (repR x mn mx z)≤1000000000):mn≤1000000001:=by
 rw [rep_eqc h hx] at hs
 have:=rep_many (x:=x) m0 []
 rw [zzY] at this
 have:=sz_row_ge (List.replicate m0 x)
 omega
theorem rep_bdd {x:Us} {mn mx:Int} {z:Bool} {m0 d0 q:Nat} (h:mn=(m0:Int)) (hd:mx=mn+(d0:Int)+1) (hs:q+szU (repR x mn mx z)≤1000000000):mn≤1000000001∧mx≤2000000003:=by
 rw [rep_eqd h hd] at hs
 have h1:=rep_many (x:=x) m0 [optU z x d0]
 have h2:=sz_row_ge (List.replicate m0 x++[optU z x d0])
 have h3:d0≤szU (optU z x d0):=by rw [szU_opt];omega
 have h4:szUs (List.replicate m0 x++[optU z x d0])=m0*szU x+szU (optU z x d0):=by rw [szUs_append,szUs_rep,szUs,szUs];omega
 omega
theorem nb_far {X:List Nat} {rb b:Nat} {ty:TypeId} {cs:List Value} {v v0 v1 V:Value} {L:List NdV} {l:List Nat} {w0 w w1 w2:World} (h:NB rb b ty cs v1 w1) (hg:w1.grownBy w2 V.ownBlock) (_:Acc X rb v L w V l) (hf:∀ g,V.ownBlock=some g→w0.heap.size≤g) (hb:NB rb b ty cs v0 w0):Blk w2 b ty cs :=
 h.blk.kept (Kept.of_grown' hg) fun hm=>by
  have:=hf b (by simpa using hm)
  have:=hb.blk.lt
  omega
set_option maxRecDepth 100000 in
set_option maxHeartbeats 4000000 in
theorem rrep_c (X:List Nat) (rb:Nat) (k:Int) (r:List (Int × Int)) (ra:Option Addr) (rc:Nat) (ast:Int) (sa:Option Addr) (sc:Nat) (mn mx:Int) (z:Bool) (ix:Int) (nm:ByteArray) (s:Ta) (v:Value) (L:List NdV) (w:World) (m0:Nat) (hm0:mn=(m0:Int)) (hmx:mx=mn) (H0:UnfOk6 s) (h:RT w (Fs X rb v w) (Ta.mk k r ra rc ast [s] sa sc (mn) (mx) z ix nm)) (htb:TbR X rb v L w) (hsz:L.length+szU (repR (unfR s.tr) mn mx z)≤1000000000) :
  Calls Try.prog 37 #[.pointer (some ⟨rb,0,none⟩),(Ta.mk k r ra rc ast [s] sa sc (mn) (mx) z ix nm).val] w fun e w'=>∃ v' L' u,e=.returned (.int .i64 (u.ad:Int))∧TbR X rb v' L' w'∧RKI rb v w v' w'∧BuiltL L L' [u]∧shU u=repR (unfR s.tr) mn mx z:=by
 have hmb:mn≤1000000001:=rep_bdc hm0 hmx hsz
 have hx0:¬mx < 0:=by omega
 have hxn:¬mn < mx:=by omega
 have HM0:=zzA hm0
 have HMX:=zzA hmx
 clear hm0 hmx
 obtain ⟨-,hN,hL⟩:=h.parts
 have hs:=hL s (zzE.2 rfl)
 have hb0:Below w.heap.size w (w.alloc (.cells #[.int .i64 k,.slice ra r.length rc,.int .i64 ast,.slice sa 1 sc,.int .i64 mn,.int .i64 mx,.bool z,.int .i64 ix,.string nm] 25)):=(zzb _ _).alloc (zzF _) _
 have hnb:=htb.new 25 [.int .i64 k,.slice ra r.length rc,.int .i64 ast,.slice sa 1 sc,.int .i64 mn,.int .i64 mx,.bool z,.int .i64 ix,.string nm]
 have hbl:=hnb.blk
 obtain ⟨bs,os,rfl,hbs,hcs⟩:=hN.2.2.2.2 (by simp)
 have hsc:=hN.1
 have hsc2:=hN.2.1
 simp only [zzO,List.length_nil,Nat.zero_add] at hsc
 cases s with
 | mk k2 r2 ra2 rc2 a2 l2 sa2 sc2 mn2 mx2 z2 ix2 nm2 =>
 have hkk:RKI rb v w v (w.alloc (.cells #[.int .i64 k,.slice ra r.length rc,.int .i64 ast,.slice (some ⟨bs,os,none⟩) 1 sc,.int .i64 mn,.int .i64 mx,.bool z,.int .i64 ix,.string nm] 25)):=.of_below hb0
 have hc:∀ q u,(Ta.mk k2 r2 ra2 rc2 a2 l2 sa2 sc2 mn2 mx2 z2 ix2 nm2).vals[q]?=some u→(w.alloc (.cells #[.int .i64 k,.slice ra r.length rc,.int .i64 ast,.slice (some ⟨bs,os,none⟩) 1 sc,.int .i64 mn,.int .i64 mx,.bool z,.int .i64 ix,.string nm] 25)).cell? ⟨bs,os+q,none⟩=some u:=fun q u hq=>(hb0.cell (p:=⟨bs,os+q,none⟩) hbs.1).trans (hcs q u (by simp only [rowT,zzY];exact hq))
 have sr0:=hc 0 _ rfl
 have sr1:=hc 1 _ rfl
 have sr2:=hc 2 _ rfl
 have sr3:=hc 3 _ rfl
 have sr4:=hc 4 _ rfl
 have sr5:=hc 5 _ rfl
 have sr6:=hc 6 _ rfl
 have sr7:=hc 7 _ rfl
 have sr8:=hc 8 _ rfl
 simp only [Nat.add_zero] at sr0
 obtain ⟨xr0,xr1,xr2,xr3,xr4,xr5,xr6,xr7,xr8⟩:=bc9 (hbl)
 have hT1:=(htb.below hb0)
 have hNB1:=hT1.new 25 [.int .i64 k2,.slice ra2 r2.length rc2,.int .i64 a2,.slice sa2 l2.length sc2,.int .i64 mn2,.int .i64 mx2,.bool z2,.int .i64 ix2,.string nm2]
 have hb1:Below (w.alloc (.cells #[.int .i64 k,.slice ra r.length rc,.int .i64 ast,.slice (some ⟨bs,os,none⟩) 1 sc,.int .i64 mn,.int .i64 mx,.bool z,.int .i64 ix,.string nm] 25)).heap.size (w.alloc (.cells #[.int .i64 k,.slice ra r.length rc,.int .i64 ast,.slice (some ⟨bs,os,none⟩) 1 sc,.int .i64 mn,.int .i64 mx,.bool z,.int .i64 ix,.string nm] 25)) ((w.alloc (.cells #[.int .i64 k,.slice ra r.length rc,.int .i64 ast,.slice (some ⟨bs,os,none⟩) 1 sc,.int .i64 mn,.int .i64 mx,.bool z,.int .i64 ix,.string nm] 25)).alloc (.cells #[.int .i64 k2,.slice ra2 r2.length rc2,.int .i64 a2,.slice sa2 l2.length sc2,.int .i64 mn2,.int .i64 mx2,.bool z2,.int .i64 ix2,.string nm2] 25)):=(zzb _ _).alloc (zzF _) _
 rw [show (w.alloc (.cells #[.int .i64 k,.slice ra r.length rc,.int .i64 ast,.slice (some ⟨bs,os,none⟩) 1 sc,.int .i64 mn,.int .i64 mx,.bool z,.int .i64 ix,.string nm] 25)).heap.size=w.heap.size+1 from by simp] at hNB1
 have HT:=zzA (hT1.below hb1)
 have hk1:RKI rb v w v ((w.alloc (.cells #[.int .i64 k,.slice ra r.length rc,.int .i64 ast,.slice (some ⟨bs,os,none⟩) 1 sc,.int .i64 mn,.int .i64 mx,.bool z,.int .i64 ix,.string nm] 25)).alloc (.cells #[.int .i64 k2,.slice ra2 r2.length rc2,.int .i64 a2,.slice sa2 l2.length sc2,.int .i64 mn2,.int .i64 mx2,.bool z2,.int .i64 ix2,.string nm2] 25)):=hkk.trans (.of_below hb1)
 have HK:=zzA hk1
 have HRT:=zzA (hs.rki hk1)
 have HNX:=zzA ((show RKI rb v (w.alloc (.cells #[.int .i64 k,.slice ra r.length rc,.int .i64 ast,.slice (some ⟨bs,os,none⟩) 1 sc,.int .i64 mn,.int .i64 mx,.bool z,.int .i64 ix,.string nm] 25)) v ((w.alloc (.cells #[.int .i64 k,.slice ra r.length rc,.int .i64 ast,.slice (some ⟨bs,os,none⟩) 1 sc,.int .i64 mn,.int .i64 mx,.bool z,.int .i64 ix,.string nm] 25)).alloc (.cells #[.int .i64 k2,.slice ra2 r2.length rc2,.int .i64 a2,.slice sa2 l2.length sc2,.int .i64 mn2,.int .i64 mx2,.bool z2,.int .i64 ix2,.string nm2] 25)) from .of_below hb1).nb hnb)
 have HNY:=zzA hNB1
 have HU:=zzA H0
 have hxx:=HNX.out.blk
 have hyy:=HNY.out.blk
 obtain ⟨xs0,xs1,xs2,xs3,xs4,xs5,xs6,xs7,xs8⟩:=bc9 (hxx)
 obtain ⟨ys0,ys1,ys2,ys3,ys4,ys5,ys6,ys7,ys8⟩:=bc9 (hyy)
 obtain ⟨tt,htt⟩:∃ tt,tt=unfR (Ta.mk k2 r2 ra2 rc2 a2 l2 sa2 sc2 mn2 mx2 z2 ix2 nm2).tr:=⟨_,rfl⟩
 unfold UnfOk6 at HU
 rw [←htt] at HU hsz ⊢
 simp only [Ta.val,Ta.vals] at HU
 simp only [Ta.val,Ta.vals,zzO,List.length_nil,Nat.zero_add]
 clear h hN hL hs hb0 hnb hbl hcs hbs hkk hc hT1 hNB1 hb1 hk1 htt hxx hyy htb H0
 go_enter Try.func37,Try.ntmps37
 go_wp2_with fail
 have hsz2:L.length+szUs (List.replicate m0 tt)≤1000000000:=by
  refine zzU (Nat.add_le_add_left (sz_row_ge _) _) ?_
  rwa [rep_eqc HM0.out HMX.out] at hsz
 have HREQ:=zzA (rep_eqc (x:=tt) (z:=z) HM0.out HMX.out)
 have HN1:=zzA (show mn=(m0:Int) from by have hm0:=HM0.out;have hmx:=HMX.out;omega)
 clear xr0 xr1 xr2 xr3 xr4 xr5 xr6 xr7 xr8 sr0 sr1 sr2 sr3 sr4 sr5 sr6 sr7 sr8 hsz
 clear xs0 xs1 xs2 xs3 xs4 xs5 xs6 xs7 xs8 ys0 ys1 ys2 ys3 ys4 ys5 ys6 ys7 ys8
 generalize ((w.alloc (.cells #[.int .i64 k,.slice ra r.length rc,.int .i64 ast,.slice (some ⟨bs,os,none⟩) 1 sc,.int .i64 mn,.int .i64 mx,.bool z,.int .i64 ix,.string nm] 25)).alloc (.cells #[.int .i64 k2,.slice ra2 r2.length rc2,.int .i64 a2,.slice sa2 l2.length sc2,.int .i64 mn2,.int .i64 mx2,.bool z2,.int .i64 ix2,.string nm2] 25))=w1 at *
 go_loopw [8,6] (fun iv lv wr=>∃ (i:Nat) (A:Option Addr) (c:Nat) (us:List Un) (v':Value) (L':List NdV),i≤m0∧iv=.int .i64 (i:Int)∧lv=.slice A us.length c∧Acc X rb v' L' wr (.slice A us.length c) (us.map Un.ad)∧RKI rb v w1 v' wr∧BuiltL L L' us∧us.map shU=List.replicate i tt∧(∀ g,(Value.slice A us.length c).ownBlock=some g→w1.heap.size≤g)) (fun iv _ _=>m0 - (intOf iv).toNat)
 case atStart=>exact ⟨0,none,0,[],v,L,zzZ _,rfl,rfl,Acc.nil HT.out,.of_below (zzb _ _),BuiltL.nil L,rfl,(fun g hg=>by cases hg)⟩
 case round =>
  obtain ⟨i,A,c,us,v',L',hi,rfl,rfl,hac,hk,hbu,hsh,hfr⟩:=hrel
  obtain ⟨wl,hwl⟩:∃ wl,wl=wr:=⟨_,rfl⟩
  subst hwl
  have hx:=(hk.nb HNX.out).blk
  have hy:=(hk.nb HNY.out).blk
  obtain ⟨xs0,xs1,xs2,xs3,xs4,xs5,xs6,xs7,xs8⟩:=bc9 (hx)
  obtain ⟨ys0,ys1,ys2,ys3,ys4,ys5,ys6,ys7,ys8⟩:=bc9 (hy)
  have hL':L'.length=L.length+i*szU tt:=by rw [built_len hbu hsh,szUs_rep]
  have hulen:us.length=i:=by have:=congrArg List.length hsh;rwa [zzP,List.length_replicate] at this
  have hrt:=HRT.out.grow (X':=(Value.slice A us.length c).ownBlock.toList++X) hk (fun x hx=>by
   rcases zzM.1 hx with hx | hx
   ·exact .inr (hfr x (by simpa using hx))
   ·exact .inl hx)
  have hrr:=hac.own
  rw [zzP] at hrr
  have hr1:=(Reads.of_own hrr).1
  have hr2:=(Reads.of_own hrr).2.1
  obtain ⟨i1,hi1,hz10,hz11,hz12⟩:=info_parts info_intR
  have HAC:=zzA hac
  have HKL:=zzA hk
  have HBU:=zzA hbu
  have HSH:=zzA hsh
  have HFR:=zzA hfr
  have HRTL:=zzA hrt
  have HUL:=zzA hulen
  have HLL:=zzA hL'
  have hui:us.length≤m0:=by omega
  clear hulen hL'
  clear hac hk hbu hsh hfr hrt hx hy hrr
  by_cases hlt:i < m0
  ·have hlt2:(i:Int) < mn:=by have:=HN1.out;omega
   have hsz5:(i+1)*szU tt≤m0*szU tt:=Nat.mul_le_mul_right _ hlt
   have hsz6:L'.length+szU tt≤1000000000:=by
    rw [szUs_rep] at hsz2
    rw [Nat.add_mul,Nat.one_mul] at hsz5
    have:=HLL.out
    omega
   have hi9:us.length≤1000000000:=by have:=szU_pos tt;have:=Nat.mul_le_mul_left i this;have:=HLL.out;have:=HUL.out;omega
   go_wp2_with fail
   refine (HU.out _ rb v' L' wl HRTL.out HAC.out.tb hsz6).mono ?_
   rintro e w2 ⟨v2,L2,u2,rfl,ht2,hk2,hb2,hs2⟩
   have hac2:=HAC.out.step hk2 ht2
   have hbw:Below w2.heap.size w2 (w2.alloc (.cells #[.int .i64 (u2.ad:Int)] 3)):=(zzb _ _).alloc (zzF _) _
   have HA3:=zzA (hac2.below hbw)
   have HK3:=zzA (HKL.out.trans (hk2.trans (show RKI rb v2 w2 v2 (w2.alloc (.cells #[.int .i64 (u2.ad:Int)] 3)) from .of_below hbw)))
   have HB2:=zzA hb2
   have HS2:=zzA hs2
   have ho:=HA3.out.own
   rw [zzP] at ho
   clear ht2 hk2 hb2 hs2 hac2 hbw xs0 xs1 xs2 xs3 xs4 xs5 xs6 xs7 xs8 ys0 ys1 ys2 ys3 ys4 ys5 ys6 ys7 ys8
   simp only []
   go_wp2_with (at_builtin;go_loud (refine wpList_append_lies _ rfl (.tmp 42) (.tmp 46) 26 rfl 0 3 i1 (.int .i64 0) 1 8 Try.underlying26 hi1 hz10 hz11 hz12 rfl (by decide) (.slice A us.length c) us.length (numsR (us.map Un.ad)) rfl ho ⟨w2.heap.size,0,none⟩ 1 1 [.int .i64 (u2.ad:Int)] rfl rfl (new_atT w2 3 [.int .i64 (u2.ad:Int)]) (by simp [Value.oneCell']) (by decide) (by unfold maxLen;omega) (by omega) (zzZ _) _ rfl ?_);intro g2 cap2 w6 hou2 hg2 hat2 hlt2;have HA6:=zzA (HA3.out.grown (V':=.slice (some ⟨g2,0,none⟩) (us.length+1) cap2) (l':=(us++[u2]).map Un.ad) hg2 (by rw [zzP,zzG,zzT,numsR,zzT];exact hou2) (fun g hg=>by rw [show g2=g from by simpa [Value.ownBlock] using hg] at hat2;exact at_old (zzF _) hat2));have HK6:=zzA ((HK3.out).far hg2 HFR.out);have HF6:=zzA (show ∀ g,(Value.slice (some ⟨g2,0,none⟩) (us.length+1) cap2).ownBlock=some g→w1.heap.size≤g from fun g hg=>by rw [show g2=g from by simpa [Value.ownBlock] using hg] at hat2;rcases hat2 with h | h;exact HFR.out g h;rw [h];have:=(HK3.out).kept.size;(try simp only [World.drew] at this ⊢);omega);clear hou2 hg2 hat2 hlt2)
   refine ⟨⟨i+1,some ⟨g2,0,none⟩,cap2,us++[u2],v2,L2,by omega,by go_num,by rw [zzG];rfl,by rw [zzG];exact HA6.out,HK6.out,HBU.out.snoc HB2.out,?_,by rw [zzG];exact HF6.out⟩,by simp [intOf];omega⟩
   rw [zzT,HSH.out,zzS,List.map_nil,HS2.out,List.replicate_succ']
  ·obtain rfl:i=m0:=by omega
   have hlt2:¬((i:Int) < mn):=by have:=HN1.out;omega
   go_wp2_with fail
   obtain ⟨ht7,hr7⟩:=Acc.rda (l:=(us).map Un.ad) (A:=A) (c:=c) (by rw [zzP];exact HAC.out)
   rw [zzP] at hr7
   refine (rrow_any (us) (A) c ht7 (by rw [built_len HBU.out HSH.out];omega) HBU.out hr7).mono ?_
   rintro e w8 ⟨v8,L8,u8,rfl,ht8,hk8,hb8,hs8⟩
   simp only []
   go_wp2_with fail
   go_ret
   exact ⟨v8,L8,u8,rfl,ht8,(HK.out.trans HKL.out).trans hk8,hb8,by rw [hs8,HSH.out,HREQ.out]⟩
end Go.Proofs.Ytkhkllpdhnmhkaa
