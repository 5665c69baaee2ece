/- prog's maker: a group. -/
import Derived.StillTailTactics
import Derived.Test.YtgkclnmmjedmkaaGreatP34
set_option maxRecDepth 100000
set_option maxHeartbeats 1000000
namespace Go.Proofs.YtgkclnmmjedmkaaGreat
open Go.RowKit Mach Tr
variable {X:List Nat}
theorem layGrp_any (k:Int) (r:List (Int × Int)) (ra:Option Addr) (rc:Nat) (ast:Int) (l:List Ta) (sa:Option Addr) (sc:Nat) (mn mx:Int) (z:Bool) (ix:Int) (nm:ByteArray) (ih:∀ u∈l,LY u) (S:Nat→Prop) (w:World) (rb:Nat) (v:Value) (L:List InV) (h:RT w S (.mk k r ra rc ast l sa sc mn mx z ix nm)) (hS:∀ b,S b→b < rb) (hr:RowI X rb 57 v L w) (hlen:l.length=1) (hix:0≤ix∧ix≤1000) (hl:L.length+(lensS (trs l)+2)≤1000000000) :
  Calls Tryz.prog 79 #[(.pointer (some ⟨rb,0,none⟩)),(Ta.mk k r ra rc ast l sa sc mn mx z ix nm).val] w fun e w'=>e=.returned (.tuple #[])∧∃ v' L',LP X rb v w L (lensS (trs l)+2) (⟨3,((L.length+1:Nat):Int),0,2*ix,[]⟩ :: (codesS (trs l) (L.length+1)++[⟨3,((L.length+1+lensS (trs l)+1:Nat):Int),0,2*ix+1,[]⟩])) v' L' w':=by
 have hb0:Below w.heap.size w (w.alloc (.cells #[.int .i64 k,.slice ra r.length rc,.int .i64 ast,.slice sa l.length sc,.int .i64 mn,.int .i64 mx,.bool z,.int .i64 ix,.string nm] 25)):=(zzb _ _).alloc (zzF _) _
 have HL:=zzA (LP.refl hr hb0)
 have HX0:=zzA (hr.new (ty2:=25) [.int .i64 k,.slice ra r.length rc,.int .i64 ast,.slice sa l.length sc,.int .i64 mn,.int .i64 mx,.bool z,.int .i64 ix,.string nm])
 have HR:=zzA hr
 obtain ⟨⟨-,-,hll,-⟩,hN,hLs⟩:=h.parts
 obtain ⟨b,off,rfl,hSb,_⟩:=hN.2.2.2.2 (by omega)
 obtain ⟨u,hu⟩:∃ u,l[0]?=some u:=⟨_,zzJ (by omega)⟩
 have hum:u∈l:=zzL hu
 have hhd:trs l=[u.tr]:=by
  match l,hlen,hu with
  | [x],_,hu=>simp at hu;subst hu;rfl
 have hlt1:(0:Int) < (l.length:Int):=by omega
 have hcell:∀ W,Below rb w W→∀ j,j < 9→W.cell? ⟨b,off+j,none⟩=u.vals[j]?:=fun W hW j hj=>by
  have:=hN.node (j:=0) (t:=u) hu hj
  rw [Nat.zero_mul,zzw] at this
  rw [←this]
  exact hW.cell (p:=⟨b,off+j,none⟩) (hS b hSb)
 have hRK:=fun (W:World) (V:Value) (LL:List InV) (hW:Below rb w W) (hr2:RowI X rb 57 V LL W) (hl2:LL.length+lenS u.tr≤1000000000)=>ih u hum X S W rb V LL ((hLs u hum).below hS hW) hS hr2 hl2
 rw [hhd] at hl ⊢
 simp only [lensS,codesS,zzY,Nat.add_zero] at hl ⊢
 clear hu hum hhd
 obtain ⟨ut,hut⟩:∃ q,q=u.tr:=⟨_,rfl⟩
 rw [←hut] at hRK hl ⊢
 clear hut h hS hr hb0 hN hLs ih hlen hSb
 cases u with
 | mk k' r' ra' rc' a' l' sa' sc' n' m' z' i' s' =>
 simp only [Ta.vals] at hcell
 simp only [Ta.val,Ta.vals] at hRK
 have HCELL:=zzA hcell
 have HRK:=zzA hRK
 clear hcell hRK
 have hw2:IntKind.i64.wrap (2*ix)=2*ix:=wrI (by omega)
 have hw3:IntKind.i64.wrap (2*ix+1)=2*ix+1:=wrI (by omega)
 simp only [Ta.val,Ta.vals]
 go_enter Tryz.func79,Tryz.ntmps79
 go_wp2_with fail
 generalize (w.alloc (.cells #[.int .i64 k,.slice ra r.length rc,.int .i64 ast,.slice (some ⟨b,off,none⟩) l.length sc,.int .i64 mn,.int .i64 mx,.bool z,.int .i64 ix,.string nm] 25))=w1 at *
 have kA:w1.cell? ⟨w.heap.size,7,none⟩=some (.int .i64 ix):=HX0.out.blk.cell 7
 go_still_tail 6,(by kernel_rfl)
 change wpList _ _ _ _ _ w1.drew

 have HP:=zzA (put_walk rb 3 (2*ix) v L w1.drew HL.out.row.drew (by omega))
 clear kA
 go_wp2_with fail
 refine HP.out.mono ?_
 rintro e w2 ⟨rfl,v2,hr2,hk2⟩
 have hL2:=HL.out.drew.trans (LP.put hr2 hk2)
 have HX2:=zzA (hk2.nb HX0.out.drew)
 have hlow2:Below rb w w2:=HR.out.low hL2.rk
 have hc2:=HCELL.out w2 hlow2
 have HI:=zzA (HRK.out w2 v2 _ hlow2 hr2 (by rw [zzG,List.length_singleton];omega))
 have kS:w2.cell? ⟨w.heap.size,3,none⟩=some (.slice (some ⟨b,off,none⟩) l.length sc):=HX2.out.blk.cell 3
 have c0:=hc2 0 (by omega)
 have c1':=hc2 1 (by omega)
 have c2':=hc2 2 (by omega)
 have c3:=hc2 3 (by omega)
 have c4:=hc2 4 (by omega)
 have c5:=hc2 5 (by omega)
 have c6:=hc2 6 (by omega)
 have c7:=hc2 7 (by omega)
 have c8:=hc2 8 (by omega)
 simp only [zzR,zzX,Nat.add_zero] at c0 c1' c2' c3 c4 c5 c6 c7 c8
 have HL2:=zzA hL2
 clear hr2 hk2 hL2 hlow2 hc2
 simp only []
 go_wp2_with fail
 refine HI.out.mono ?_
 rintro e w3 ⟨rfl,v3,L3,hL3⟩
 have HX3:=zzA (hL3.rk.nb HX2.out)
 have hle3:=hL3.le
 rw [zzG,List.length_singleton] at hle3
 have HP3:=zzA (put_walk rb 3 (2*ix+1) v3 L3 w3.drew hL3.row.drew (by omega))
 have HL3:=zzA (HL2.out.seq (by simp) (codeS ut) hL3)
 have kC:w3.cell? ⟨w.heap.size,7,none⟩=some (.int .i64 ix):=HX3.out.blk.cell 7
 clear hL3 kS c0 c1' c2' c3 c4 c5 c6 c7 c8
 simp only []
 go_wp2_with fail
 go_still_tail 7,(by kernel_rfl)
 change wpList _ _ _ _ _ w3.drew

 go_wp2_with fail
 refine HP3.out.mono ?_
 rintro e w4 ⟨rfl,v4,hr4,hk4⟩
 have HL4:=zzA (HL3.out.drew.seq (by simp [code_length];omega) (fun b=>[⟨3,(b:Int)+1,0,2*ix+1,[]⟩]) (LP.put hr4 hk4))
 clear hr4 hk4
 simp only []
 go_wp2_with fail
 go_end0
 exact ⟨rfl,v4,_,HL4.out.cast (by omega) (by simp;omega)⟩
end Go.Proofs.YtgkclnmmjedmkaaGreat
