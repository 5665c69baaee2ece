/- prog's maker: x+. -/
import Derived.Deep.RegionHeld3
import Derived.BigRegion
import Derived.Test.YtgkclnmmjedmkaaGreatP42
set_option maxRecDepth 100000
set_option maxHeartbeats 1000000
namespace Go.Proofs.YtgkclnmmjedmkaaGreat
open Go.RowKit Mach Tr
variable {X:List Nat}
theorem rep_plus (k:Int) (r:List (Int × Int)) (ra:Option Addr) (rc:Nat) (ast:Int) (l:List Ta) (sa:Option Addr) (sc:Nat) (mx:Int) (z:Bool) (ix:Int) (nm:ByteArray) (ih:∀ u∈l,LY u) (S:Nat→Prop) (w:World) (rb:Nat) (v:Value) (L:List InV) (h:RT w S (.mk k r ra rc ast l sa sc 1 mx z ix nm)) (hS:∀ b,S b→b < rb) (hr:RowI X rb 57 v L w) (hlen:l.length=1) (hl:L.length+(lensS (trs l)+1)≤1000000000) :
  Calls Tryz.prog 81 #[(.pointer (some ⟨rb,0,none⟩)),(Ta.mk k r ra rc ast l sa sc 1 mx z ix nm).val] w fun e w'=>e=.returned (.tuple #[])∧∃ v' L',LP X rb v w L (lensS (trs l)+1) (codesS (trs l) L.length++[altI z L.length (L.length+lensS (trs l)+1)]) v' L' w':=by
 have hb0:Below w.heap.size w (w.alloc (.cells #[.int .i64 k,.slice ra r.length rc,.int .i64 ast,.slice sa l.length sc,.int .i64 1,.int .i64 mx,.bool z,.int .i64 ix,.string nm] 25)):=(zzb _ _).alloc (zzF _) _
 have HL:=zzA (LP.refl hr hb0)
 have HX0:=zzA (hr.new (ty2:=25) [.int .i64 k,.slice ra r.length rc,.int .i64 ast,.slice sa l.length sc,.int .i64 1,.int .i64 mx,.bool z,.int .i64 ix,.string nm])
 have HR:=zzA hr
 obtain ⟨⟨-,-,hll,-⟩,hN,hLs⟩:=h.parts
 obtain ⟨b,off,rfl,hSb,_⟩:=hN.2.2.2.2 (by omega)
 obtain ⟨u,hu⟩:∃ u,l[0]?=some u:=⟨_,zzJ (by omega)⟩
 have hum:u∈l:=zzL hu
 have hhd:trs l=[u.tr]:=by
  match l,hlen,hu with
  | [x],_,hu=>simp at hu;subst hu;rfl
 have hlt1:(0:Int) < (l.length:Int):=by omega
 have hcell:∀ W,Below rb w W→∀ j,j < 9→W.cell? ⟨b,off+j,none⟩=u.vals[j]?:=fun W hW j hj=>by
  have:=hN.node (j:=0) (t:=u) hu hj
  rw [Nat.zero_mul,zzw] at this
  rw [←this]
  exact hW.cell (p:=⟨b,off+j,none⟩) (hS b hSb)
 have hRK:=fun (W:World) (V:Value) (LL:List InV) (hW:Below rb w W) (hr2:RowI X rb 57 V LL W) (hl2:LL.length+lenS u.tr≤1000000000)=>ih u hum X S W rb V LL ((hLs u hum).below hS hW) hS hr2 hl2
 rw [hhd] at hl ⊢
 simp only [lensS,codesS,zzY,Nat.add_zero] at hl ⊢
 clear hu hum hhd
 obtain ⟨ut,hut⟩:∃ q,q=u.tr:=⟨_,rfl⟩
 rw [←hut] at hRK hl ⊢
 clear hut h hS hr hb0 hN hLs ih hlen hSb
 cases u with
 | mk k' r' ra' rc' a' l' sa' sc' n' m' z' i' s' =>
 simp only [Ta.vals] at hcell
 simp only [Ta.val,Ta.vals] at hRK
 have HCELL:=zzA hcell
 have HRK:=zzA hRK
 clear hcell hRK
 simp only [Ta.val,Ta.vals]
 go_enter Tryz.func81,Tryz.ntmps81
 go_wp2_with fail
 generalize (w.alloc (.cells #[.int .i64 k,.slice ra r.length rc,.int .i64 ast,.slice (some ⟨b,off,none⟩) l.length sc,.int .i64 1,.int .i64 mx,.bool z,.int .i64 ix,.string nm] 25))=w1 at *
 refine (next_any rb v L w1 HL.out.row).mono ?_
 rintro e wn ⟨rfl,hwn⟩
 subst wn
 simp only []
 have HL1:=HL
 have HX1:=HX0
 have hlow:Below rb w w1:=HR.out.low HL1.out.rk
 have hc:=HCELL.out w1 hlow
 have HI:=zzA (HRK.out w1 v L hlow HL1.out.row (by omega))
 have kS:w1.cell? ⟨w.heap.size,3,none⟩=some (.slice (some ⟨b,off,none⟩) l.length sc):=HX1.out.blk.cell 3
 have kS4:w1.cell? ⟨w.heap.size,4,none⟩=some (.int .i64 1):=HX1.out.blk.cell 4
 have c0:=hc 0 (by omega)
 have c1':=hc 1 (by omega)
 have c2':=hc 2 (by omega)
 have c3:=hc 3 (by omega)
 have c4:=hc 4 (by omega)
 have c5:=hc 5 (by omega)
 have c6:=hc 6 (by omega)
 have c7:=hc 7 (by omega)
 have c8:=hc 8 (by omega)
 simp only [zzR,zzX,Nat.add_zero] at c0 c1' c2' c3 c4 c5 c6 c7 c8
 clear hlow hc
 go_wp2_with fail
 refine HI.out.mono ?_
 rintro e w2 ⟨rfl,v2,L2,hL⟩
 have HX2:=zzA (hL.rk.nb HX1.out)
 have hle2:=hL.le
 have hge2:=hL.ge
 have HL2:=zzA (HL1.out.seq (by simp) (codeS ut) hL)
 clear hL kS kS4 c0 c1' c2' c3 c4 c5 c6 c7 c8
 simp only []
 have HP:=zzA (put_walk rb 2 0 v2 L2 w2 HL2.out.row (by omega))
 go_wp2_with fail
 refine HP.out.mono ?_
 rintro e w3 ⟨rfl,v3,hr,hk⟩
 have HX3:=zzA (hk.nb HX2.out)
 have HL3:=zzA (HL2.out.seq (by simp [code_length]) (fun b=>[⟨2,(b:Int)+1,0,0,[]⟩]) (LP.put hr hk))
 obtain ⟨L3,hL3⟩:∃ q,q=L2++[⟨⟨2,(L2.length:Int)+1,0,0,[]⟩,none,0,0⟩]:=⟨_,rfl⟩
 rw [←hL3] at HL3
 have hn3:L3.length=L2.length+1:=by rw [hL3];simp
 have ha3:L3[L2.length]?=some ⟨⟨2,(L2.length:Int)+1,0,0,[]⟩,none,0,0⟩:=by rw [hL3];simp
 clear hr hk HP
 simp only []
 obtain ⟨A3,c3,rfl⟩:=own_shape HL3.out.row.own
 obtain ⟨g,rfl,hg0,hg1⟩:=HL3.out.slice (by omega)
 go_wp2_with fail
 have e0:w3.drew.cell? ⟨rb,0,none⟩=some (.slice (some ⟨g,0,none⟩) L3.length c3):=HL3.out.row.blk.cell 0
 have hx0:w3.cell? ⟨g,L2.length*5+1,none⟩=some _:=HL3.out.cellX rfl ha3
 have hy0:w3.cell? ⟨g,L2.length*5+2,none⟩=some _:=HL3.out.cellY rfl ha3
 have fx0:=own_frozen HL3.out.row.own (L2.length*5+1)
 have fy0:=own_frozen HL3.out.row.own (L2.length*5+2)
 have hgr:g≠rb:=fun e=>HL3.out.row.sep (by rw [e];rfl)
 have hb0:(0:Int)≤(L2.length:Int):=by omega
 have hb1:(L2.length:Int) < (L3.length:Int):=by omega
 have HN3:=zzA hn3
 have HA3:=zzA ha3
 clear hn3 ha3 hL3
 have hN:=zzA (next_cell rb (some ⟨g,0,none⟩) L3.length c3 w3.drew e0)
 go_region_held3 (fun w'=>w'.cell? ⟨rb,0,none⟩=some (.slice (some ⟨g,0,none⟩) L3.length c3)) (first | with_reducible exact e0 | exact (World.cell?_setCell_far _ _ _ _ hgr).trans e0 | exact (World.cell?_setCell_far _ _ _ _ hgr).trans ((World.cell?_setCell_far _ _ _ _ hgr).trans e0) | go_keep) (first | (go_at_call 44;refine hN.out.mono ?_;rintro e wn ⟨rfl,hwn⟩;subst wn;simp only []))
 have hLf:=(HL3.out.setXY rfl HA3.out (by omega) (L.length:Int) (L3.length:Int)).drew
 have hXf:NB rb w.heap.size 25 [.int .i64 k,.slice ra r.length rc,.int .i64 ast,.slice (some ⟨b,off,none⟩) l.length sc,.int .i64 1,.int .i64 mx,.bool z,.int .i64 ix,.string nm] (.slice (some ⟨g,0,none⟩) L3.length c3) ((w3.setCell ⟨g,L2.length*5+1,none⟩ (.int .i64 L.length)).setCell ⟨g,L2.length*5+2,none⟩ (.int .i64 L3.length)).drew:=((RowI.set_k.trans RowI.set_k).trans (RKI.of_below (bdrewN (zzb _ _) 1))).nb HX3.out
 obtain ⟨Lf,hLf0⟩:∃ q,q=L3.set L2.length (atI (⟨⟨2,(L2.length:Int)+1,0,0,[]⟩,none,0,0⟩:InV) (fY (L3.length:Int) (fX (L.length:Int) (⟨⟨2,(L2.length:Int)+1,0,0,[]⟩,none,0,0⟩:InV).I))):=⟨_,rfl⟩
 rw [←hLf0] at hLf
 have hkf:L3.length=Lf.length:=by rw [hLf0,zzu]
 have haf:Lf[L2.length]?=some (atI (⟨⟨2,(L2.length:Int)+1,0,0,[]⟩,none,0,0⟩:InV) (fY (L3.length:Int) (fX (L.length:Int) (⟨⟨2,(L2.length:Int)+1,0,0,[]⟩,none,0,0⟩:InV).I))):=by rw [hLf0,List.getElem?_set_self (by omega)]
 generalize ((w3.setCell ⟨g,L2.length*5+1,none⟩ (.int .i64 L.length)).setCell ⟨g,L2.length*5+2,none⟩ (.int .i64 L3.length)).drew=wf at *
 have kZ:wf.cell? ⟨w.heap.size,6,none⟩=some (.bool z):=hXf.blk.cell 6
 have e0:wf.cell? ⟨rb,0,none⟩=some (.slice (some ⟨g,0,none⟩) L3.length c3):=hLf.row.blk.cell 0
 have hx0:wf.cell? ⟨g,L2.length*5+1,none⟩=some _:=hLf.cellX hkf haf
 have hy0:wf.cell? ⟨g,L2.length*5+2,none⟩=some _:=hLf.cellY hkf haf
 have fx0:=hLf.frozen hkf (L2.length*5+1)
 have fy0:=hLf.frozen hkf (L2.length*5+2)
 simp only [atI,fX,fY] at hx0 hy0
 have HLf:=zzA hLf
 have HKF:=zzA hkf
 have HAF:=zzA haf
 clear hLf hXf hLf0 hkf haf
 cases z with
 | false =>
  go_wp2_with fail
  go_end0
  refine ⟨rfl,_,_,HLf.out.finish (by omega) fun hl=>?_⟩
  have:=HKF.out
  have h2:=HL2.out.length (by simp [code_length]) (by omega)
  have e3:(L3.length:Int)=((L.length+lenS ut+1:Nat):Int):=by have:=HN3.out;omega
  rw [modify_last _ _ _ _ (by simp [code_length];omega),e3]
  rfl
 | true =>
  go_wp2_with fail
  go_region
  go_end0
  have hE:=(HLf.out.setXY HKF.out HAF.out (by omega) (L3.length:Int) (L.length:Int)).drew
  refine ⟨rfl,_,_,LP.finish hE (by omega) fun hl=>?_⟩
  rw [zzu] at hl
  have:=HKF.out
  have h2:=HL2.out.length (by simp [code_length]) (by omega)
  have e3:(L3.length:Int)=((L.length+lenS ut+1:Nat):Int):=by have:=HN3.out;omega
  rw [modify_last _ _ _ _ (by simp [code_length];omega),modify_last _ _ _ _ (by simp [code_length];omega),e3]
  rfl
end Go.Proofs.YtgkclnmmjedmkaaGreat
namespace Go.Proofs.YtgkclnmmjedmkaaGreat
open Go.RowKit Mach Tr
variable {X:List Nat}
theorem rep_star (k:Int) (r:List (Int × Int)) (ra:Option Addr) (rc:Nat) (ast:Int) (l:List Ta) (sa:Option Addr) (sc:Nat)  (z:Bool) (ix:Int) (nm:ByteArray) (ih:∀ u∈l,LY u) (S:Nat→Prop) (w:World) (rb:Nat) (v:Value) (L:List InV) (h:RT w S (.mk k r ra rc ast l sa sc 0 (-1) z ix nm)) (hS:∀ b,S b→b < rb) (hr:RowI X rb 57 v L w) (hlen:l.length=1) (hl:L.length+(lensS (trs l)+2)≤1000000000) :
  Calls Tryz.prog 81 #[(.pointer (some ⟨rb,0,none⟩)),(Ta.mk k r ra rc ast l sa sc 0 (-1) z ix nm).val] w fun e w'=>e=.returned (.tuple #[])∧∃ v' L',LP X rb v w L (lensS (trs l)+2) (altI z (L.length+1) (L.length+1+lensS (trs l)+1) :: (codesS (trs l) (L.length+1)++[⟨7,(L.length:Nat),0,0,[]⟩])) v' L' w':=by
 have hb0:Below w.heap.size w (w.alloc (.cells #[.int .i64 k,.slice ra r.length rc,.int .i64 ast,.slice sa l.length sc,.int .i64 0,.int .i64 (-1),.bool z,.int .i64 ix,.string nm] 25)):=(zzb _ _).alloc (zzF _) _
 have HL:=zzA (LP.refl hr hb0)
 have HX0:=zzA (hr.new (ty2:=25) [.int .i64 k,.slice ra r.length rc,.int .i64 ast,.slice sa l.length sc,.int .i64 0,.int .i64 (-1),.bool z,.int .i64 ix,.string nm])
 have HR:=zzA hr
 obtain ⟨⟨-,-,hll,-⟩,hN,hLs⟩:=h.parts
 obtain ⟨b,off,rfl,hSb,_⟩:=hN.2.2.2.2 (by omega)
 obtain ⟨u,hu⟩:∃ u,l[0]?=some u:=⟨_,zzJ (by omega)⟩
 have hum:u∈l:=zzL hu
 have hhd:trs l=[u.tr]:=by
  match l,hlen,hu with
  | [x],_,hu=>simp at hu;subst hu;rfl
 have hlt1:(0:Int) < (l.length:Int):=by omega
 have hcell:∀ W,Below rb w W→∀ j,j < 9→W.cell? ⟨b,off+j,none⟩=u.vals[j]?:=fun W hW j hj=>by
  have:=hN.node (j:=0) (t:=u) hu hj
  rw [Nat.zero_mul,zzw] at this
  rw [←this]
  exact hW.cell (p:=⟨b,off+j,none⟩) (hS b hSb)
 have hRK:=fun (W:World) (V:Value) (LL:List InV) (hW:Below rb w W) (hr2:RowI X rb 57 V LL W) (hl2:LL.length+lenS u.tr≤1000000000)=>ih u hum X S W rb V LL ((hLs u hum).below hS hW) hS hr2 hl2
 rw [hhd] at hl ⊢
 simp only [lensS,codesS,zzY,Nat.add_zero] at hl ⊢
 clear hu hum hhd
 obtain ⟨ut,hut⟩:∃ q,q=u.tr:=⟨_,rfl⟩
 rw [←hut] at hRK hl ⊢
 clear hut h hS hr hb0 hN hLs ih hlen hSb
 cases u with
 | mk k' r' ra' rc' a' l' sa' sc' n' m' z' i' s' =>
 simp only [Ta.vals] at hcell
 simp only [Ta.val,Ta.vals] at hRK
 have HCELL:=zzA hcell
 have HRK:=zzA hRK
 clear hcell hRK
 simp only [Ta.val,Ta.vals]
 go_enter Tryz.func81,Tryz.ntmps81
 go_wp2_with fail
 generalize (w.alloc (.cells #[.int .i64 k,.slice ra r.length rc,.int .i64 ast,.slice (some ⟨b,off,none⟩) l.length sc,.int .i64 0,.int .i64 (-1),.bool z,.int .i64 ix,.string nm] 25))=w1 at *
 refine (next_any rb v L w1 HL.out.row).mono ?_
 rintro e wn ⟨rfl,hwn⟩
 subst wn
 simp only []
 have HL1:=HL
 have HX1:=HX0
 have kM:w1.cell? ⟨w.heap.size,4,none⟩=some (.int .i64 0):=HX1.out.blk.cell 4
 have HP:=zzA (put_walk rb 2 0 v L w1 HL.out.row (by omega))
 go_wp2_with fail
 refine HP.out.mono ?_
 rintro e w2 ⟨rfl,v2,hr,hk⟩
 have HX2:=zzA (hk.nb HX1.out)
 have HL2:=zzA (HL1.out.seq (by simp [code_length]) (fun b=>[⟨2,(b:Int)+1,0,0,[]⟩]) (LP.put hr hk))
 obtain ⟨L2,hL2⟩:∃ q,q=L++[⟨⟨2,(L.length:Int)+1,0,0,[]⟩,none,0,0⟩]:=⟨_,rfl⟩
 rw [←hL2] at HL2
 have hn2:L2.length=L.length+1:=by rw [hL2];simp
 have ha2:L2[L.length]?=some ⟨⟨2,(L.length:Int)+1,0,0,[]⟩,none,0,0⟩:=by rw [hL2];simp
 clear hr hk HP
 simp only []
 clear kM
 have hlow:Below rb w w2:=HR.out.low HL2.out.rk
 have hc:=HCELL.out w2 hlow
 have HI:=zzA (HRK.out w2 v2 L2 hlow HL2.out.row (by omega))
 have kS:w2.cell? ⟨w.heap.size,3,none⟩=some (.slice (some ⟨b,off,none⟩) l.length sc):=HX2.out.blk.cell 3
 have kS4:w2.cell? ⟨w.heap.size,4,none⟩=some (.int .i64 0):=HX2.out.blk.cell 4
 have c0:=hc 0 (by omega)
 have c1':=hc 1 (by omega)
 have c2':=hc 2 (by omega)
 have c3:=hc 3 (by omega)
 have c4:=hc 4 (by omega)
 have c5:=hc 5 (by omega)
 have c6:=hc 6 (by omega)
 have c7:=hc 7 (by omega)
 have c8:=hc 8 (by omega)
 simp only [zzR,zzX,Nat.add_zero] at c0 c1' c2' c3 c4 c5 c6 c7 c8
 clear hlow hc
 go_wp2_with fail
 refine HI.out.mono ?_
 rintro e w3 ⟨rfl,v3,L3,hL⟩
 have HX3:=zzA (hL.rk.nb HX2.out)
 have hle3:=hL.le
 have hge3:=hL.ge
 have HL3:=zzA (HL2.out.seq (by simp) (codeS ut) hL)
 clear hL kS kS4 c0 c1' c2' c3 c4 c5 c6 c7 c8
 simp only []
 have HN2:=zzA hn2
 have HA2:=zzA ha2
 have hlt3:L.length < L3.length:=by omega
 clear hn2 ha2 hL2
 have kX:w3.cell? ⟨w.heap.size,5,none⟩=some (.int .i64 (-1)):=HX3.out.blk.cell 5
 have HP:=zzA (put_walk rb 7 0 v3 L3 w3 HL3.out.row (by have:=HN2.out;omega))
 go_wp2_with fail
 refine HP.out.mono ?_
 rintro e w4 ⟨rfl,v4,hr,hk⟩
 have HX4:=zzA (hk.nb HX3.out)
 have HL4:=zzA (HL3.out.seq (by simp [code_length];omega) (fun b=>[⟨7,(b:Int)+1,0,0,[]⟩]) (LP.put hr hk))
 obtain ⟨L4,hL4⟩:∃ q,q=L3++[⟨⟨7,(L3.length:Int)+1,0,0,[]⟩,none,0,0⟩]:=⟨_,rfl⟩
 rw [←hL4] at HL4
 have hn4:L4.length=L3.length+1:=by rw [hL4];simp
 have ha4:L4[L3.length]?=some ⟨⟨7,(L3.length:Int)+1,0,0,[]⟩,none,0,0⟩:=by rw [hL4];simp
 clear hr hk HP
 simp only []
 obtain ⟨A4,c4,rfl⟩:=own_shape HL4.out.row.own
 obtain ⟨g,rfl,hg0,hg1⟩:=HL4.out.slice (by omega)
 have hgr:g≠rb:=fun e=>HL4.out.row.sep (by rw [e];rfl)
 have e0:w4.cell? ⟨rb,0,none⟩=some (.slice (some ⟨g,0,none⟩) L4.length c4):=HL4.out.row.blk.cell 0
 have hx0:w4.cell? ⟨g,L3.length*5+1,none⟩=some _:=HL4.out.cellX rfl ha4
 have fx0:=own_frozen HL4.out.row.own (L3.length*5+1)
 have hb0:(0:Int)≤(L3.length:Int):=by omega
 have hb1:(L3.length:Int) < (L4.length:Int):=by omega
 have HN4:=zzA hn4
 have HA4:=zzA ha4
 have hlt4:L.length < L4.length:=by omega
 have hle34:L4.length≤L3.length+1:=by omega
 clear hn4 ha4 hL4 kX
 go_wp2_with fail
 have hL5:=HL4.out.setX rfl HA4.out (by omega) (L.length:Int)
 have hX5:NB rb w.heap.size 25 [.int .i64 k,.slice ra r.length rc,.int .i64 ast,.slice (some ⟨b,off,none⟩) l.length sc,.int .i64 0,.int .i64 (-1),.bool z,.int .i64 ix,.string nm] (.slice (some ⟨g,0,none⟩) L4.length c4) (w4.setCell ⟨g,L3.length*5+1,none⟩ (.int .i64 L.length)):=RowI.set_k.nb HX4.out
 obtain ⟨L5,hLe5⟩:∃ q,q=L4.set L3.length (atI (⟨⟨7,(L3.length:Int)+1,0,0,[]⟩,none,0,0⟩:InV) (fX (L.length:Int) (⟨⟨7,(L3.length:Int)+1,0,0,[]⟩,none,0,0⟩:InV).I)):=⟨_,rfl⟩
 rw [←hLe5] at hL5
 have HK5:=zzA (show L4.length=L5.length by rw [hLe5,zzu])
 generalize w4.setCell ⟨g,L3.length*5+1,none⟩ (.int .i64 L.length)=w5 at *
 obtain ⟨a5,ha5⟩:∃ a,L5[L.length]?=some a:=⟨_,zzJ (by have:=HK5.out;omega)⟩
 have HA5:=zzA ha5
 have HL5:=zzA hL5
 have HX5:=zzA hX5
 clear hL5 hX5 hLe5 ha5 e0 hx0 fx0 hb0 hb1
 have e0:w5.drew.cell? ⟨rb,0,none⟩=some (.slice (some ⟨g,0,none⟩) L4.length c4):=HL5.out.row.blk.cell 0
 have hy0:w5.cell? ⟨g,L.length*5+2,none⟩=some _:=HL5.out.cellY HK5.out HA5.out
 have fy0:=HL5.out.frozen HK5.out (L.length*5+2)
 have hb0:(0:Int)≤(L.length:Int):=by omega
 have hb1:(L.length:Int) < (L4.length:Int):=by omega
 have hN:=zzA (next_cell rb (some ⟨g,0,none⟩) L4.length c4 w5.drew e0)
 go_region_held3 (fun w'=>w'.cell? ⟨rb,0,none⟩=some (.slice (some ⟨g,0,none⟩) L4.length c4)) (first | with_reducible exact e0 | exact (World.cell?_setCell_far _ _ _ _ hgr).trans e0 | go_keep) (first | (go_at_call 44;refine hN.out.mono ?_;rintro e wn ⟨rfl,hwn⟩;subst wn;simp only []))
 clear e0 hy0 fy0
 have hLf:=(HL5.out.setY HK5.out HA5.out (zzF _) (L4.length:Int)).drew
 have hXf:NB rb w.heap.size 25 [.int .i64 k,.slice ra r.length rc,.int .i64 ast,.slice (some ⟨b,off,none⟩) l.length sc,.int .i64 0,.int .i64 (-1),.bool z,.int .i64 ix,.string nm] (.slice (some ⟨g,0,none⟩) L4.length c4) (w5.setCell ⟨g,L.length*5+2,none⟩ (.int .i64 L4.length)).drew:=((RowI.set_k).trans (RKI.of_below (bdrewN (zzb _ _) 1))).nb HX5.out
 obtain ⟨Lf,hLf0⟩:∃ q,q=L5.set L.length (atI a5 (fY (L4.length:Int) a5.I)):=⟨_,rfl⟩
 rw [←hLf0] at hLf
 have hkf:L4.length=Lf.length:=by rw [hLf0,zzu];exact HK5.out
 have haf:Lf[L.length]?=some (atI a5 (fY (L4.length:Int) a5.I)):=by rw [hLf0,List.getElem?_set_self (by have:=HK5.out;omega)]
 generalize (w5.setCell ⟨g,L.length*5+2,none⟩ (.int .i64 L4.length)).drew=wf at *
 have kZ:wf.cell? ⟨w.heap.size,6,none⟩=some (.bool z):=hXf.blk.cell 6
 have e0:wf.cell? ⟨rb,0,none⟩=some (.slice (some ⟨g,0,none⟩) L4.length c4):=hLf.row.blk.cell 0
 have hx0:wf.cell? ⟨g,L.length*5+1,none⟩=some _:=hLf.cellX hkf haf
 have hy0:wf.cell? ⟨g,L.length*5+2,none⟩=some _:=hLf.cellY hkf haf
 have fx0:=hLf.frozen hkf (L.length*5+1)
 have fy0:=hLf.frozen hkf (L.length*5+2)
 simp only [atI,fX,fY] at hx0 hy0
 have HLf:=zzA hLf
 have HKF:=zzA hkf
 have HAF:=zzA haf
 clear hLf hXf hLf0 hkf haf
 cases z with
 | false =>
  go_wp2_with fail
  go_end0
  refine ⟨rfl,_,_,HLf.out.finish (by omega) fun hl=>?_⟩
  have:=HKF.out
  have:=HK5.out
  have:=HN4.out
  have h2:=HL3.out.length (by simp [code_length];omega) (by omega)
  have e4:(L4.length:Int)=((L.length+1+lenS ut+1:Nat):Int):=by omega
  rw [modify_last _ _ _ _ (by simp [code_length];omega),Nat.sub_self,e4]
  simp only [zzn,zzi,List.modify_zero_cons]
  rfl
 | true =>
  go_wp2_with fail
  go_region
  go_end0
  have hE:=(HLf.out.setXY HKF.out HAF.out (by omega) (L4.length:Int) a5.I.x).drew
  refine ⟨rfl,_,_,LP.finish hE (by omega) fun hl=>?_⟩
  rw [zzu] at hl
  have:=HKF.out
  have:=HK5.out
  have:=HN4.out
  have h2:=HL3.out.length (by simp [code_length];omega) (by omega)
  have e4:(L4.length:Int)=((L.length+1+lenS ut+1:Nat):Int):=by omega
  have hai:=(HL5.out.finish rfl fun _=>(by rw [modify_last _ _ _ _ (by simp [code_length];omega)];simp only [zzn,zzi];rfl)).at0 (I:=⟨2,((L.length+1:Nat):Int),0,0,[]⟩) (c:=codeS ut (L.length+(0+1))++[fX (L.length:Int) ⟨7,((L.length+(0+1+lenS ut):Nat):Int)+1,0,0,[]⟩]) HA5.out (by omega)
  rw [modify_last _ _ _ _ (by simp [code_length];omega),Nat.sub_self,e4,hai]
  simp only [zzn,zzi,List.modify_zero_cons]
  rfl
end Go.Proofs.YtgkclnmmjedmkaaGreat
namespace Go.Proofs.YtgkclnmmjedmkaaGreat
open Go.RowKit Mach Tr
variable {X:List Nat}
theorem rep_quest (k:Int) (r:List (Int × Int)) (ra:Option Addr) (rc:Nat) (ast:Int) (l:List Ta) (sa:Option Addr) (sc:Nat)  (z:Bool) (ix:Int) (nm:ByteArray) (ih:∀ u∈l,LY u) (S:Nat→Prop) (w:World) (rb:Nat) (v:Value) (L:List InV) (h:RT w S (.mk k r ra rc ast l sa sc 0 (1) z ix nm)) (hS:∀ b,S b→b < rb) (hr:RowI X rb 57 v L w) (hlen:l.length=1) (hl:L.length+(lensS (trs l)+1)≤1000000000) :
  Calls Tryz.prog 81 #[(.pointer (some ⟨rb,0,none⟩)),(Ta.mk k r ra rc ast l sa sc 0 (1) z ix nm).val] w fun e w'=>e=.returned (.tuple #[])∧∃ v' L',LP X rb v w L (lensS (trs l)+1) (altI z (L.length+1) (L.length+1+lensS (trs l)) :: codesS (trs l) (L.length+1)) v' L' w':=by
 have hb0:Below w.heap.size w (w.alloc (.cells #[.int .i64 k,.slice ra r.length rc,.int .i64 ast,.slice sa l.length sc,.int .i64 0,.int .i64 (1),.bool z,.int .i64 ix,.string nm] 25)):=(zzb _ _).alloc (zzF _) _
 have HL:=zzA (LP.refl hr hb0)
 have HX0:=zzA (hr.new (ty2:=25) [.int .i64 k,.slice ra r.length rc,.int .i64 ast,.slice sa l.length sc,.int .i64 0,.int .i64 (1),.bool z,.int .i64 ix,.string nm])
 have HR:=zzA hr
 obtain ⟨⟨-,-,hll,-⟩,hN,hLs⟩:=h.parts
 obtain ⟨b,off,rfl,hSb,_⟩:=hN.2.2.2.2 (by omega)
 obtain ⟨u,hu⟩:∃ u,l[0]?=some u:=⟨_,zzJ (by omega)⟩
 have hum:u∈l:=zzL hu
 have hhd:trs l=[u.tr]:=by
  match l,hlen,hu with
  | [x],_,hu=>simp at hu;subst hu;rfl
 have hlt1:(0:Int) < (l.length:Int):=by omega
 have hcell:∀ W,Below rb w W→∀ j,j < 9→W.cell? ⟨b,off+j,none⟩=u.vals[j]?:=fun W hW j hj=>by
  have:=hN.node (j:=0) (t:=u) hu hj
  rw [Nat.zero_mul,zzw] at this
  rw [←this]
  exact hW.cell (p:=⟨b,off+j,none⟩) (hS b hSb)
 have hRK:=fun (W:World) (V:Value) (LL:List InV) (hW:Below rb w W) (hr2:RowI X rb 57 V LL W) (hl2:LL.length+lenS u.tr≤1000000000)=>ih u hum X S W rb V LL ((hLs u hum).below hS hW) hS hr2 hl2
 rw [hhd] at hl ⊢
 simp only [lensS,codesS,zzY,Nat.add_zero] at hl ⊢
 clear hu hum hhd
 obtain ⟨ut,hut⟩:∃ q,q=u.tr:=⟨_,rfl⟩
 rw [←hut] at hRK hl ⊢
 clear hut h hS hr hb0 hN hLs ih hlen hSb
 cases u with
 | mk k' r' ra' rc' a' l' sa' sc' n' m' z' i' s' =>
 simp only [Ta.vals] at hcell
 simp only [Ta.val,Ta.vals] at hRK
 have HCELL:=zzA hcell
 have HRK:=zzA hRK
 clear hcell hRK
 simp only [Ta.val,Ta.vals]
 go_enter Tryz.func81,Tryz.ntmps81
 go_wp2_with fail
 generalize (w.alloc (.cells #[.int .i64 k,.slice ra r.length rc,.int .i64 ast,.slice (some ⟨b,off,none⟩) l.length sc,.int .i64 0,.int .i64 (1),.bool z,.int .i64 ix,.string nm] 25))=w1 at *
 refine (next_any rb v L w1 HL.out.row).mono ?_
 rintro e wn ⟨rfl,hwn⟩
 subst wn
 simp only []
 have HL1:=HL
 have HX1:=HX0
 have kM:w1.cell? ⟨w.heap.size,4,none⟩=some (.int .i64 0):=HX1.out.blk.cell 4
 have HP:=zzA (put_walk rb 2 0 v L w1 HL.out.row (by omega))
 go_wp2_with fail
 refine HP.out.mono ?_
 rintro e w2 ⟨rfl,v2,hr,hk⟩
 have HX2:=zzA (hk.nb HX1.out)
 have HL2:=zzA (HL1.out.seq (by simp [code_length]) (fun b=>[⟨2,(b:Int)+1,0,0,[]⟩]) (LP.put hr hk))
 obtain ⟨L2,hL2⟩:∃ q,q=L++[⟨⟨2,(L.length:Int)+1,0,0,[]⟩,none,0,0⟩]:=⟨_,rfl⟩
 rw [←hL2] at HL2
 have hn2:L2.length=L.length+1:=by rw [hL2];simp
 have ha2:L2[L.length]?=some ⟨⟨2,(L.length:Int)+1,0,0,[]⟩,none,0,0⟩:=by rw [hL2];simp
 clear hr hk HP
 simp only []
 clear kM
 have hlow:Below rb w w2:=HR.out.low HL2.out.rk
 have hc:=HCELL.out w2 hlow
 have HI:=zzA (HRK.out w2 v2 L2 hlow HL2.out.row (by omega))
 have kS:w2.cell? ⟨w.heap.size,3,none⟩=some (.slice (some ⟨b,off,none⟩) l.length sc):=HX2.out.blk.cell 3
 have kS4:w2.cell? ⟨w.heap.size,4,none⟩=some (.int .i64 0):=HX2.out.blk.cell 4
 have c0:=hc 0 (by omega)
 have c1':=hc 1 (by omega)
 have c2':=hc 2 (by omega)
 have c3:=hc 3 (by omega)
 have c4:=hc 4 (by omega)
 have c5:=hc 5 (by omega)
 have c6:=hc 6 (by omega)
 have c7:=hc 7 (by omega)
 have c8:=hc 8 (by omega)
 simp only [zzR,zzX,Nat.add_zero] at c0 c1' c2' c3 c4 c5 c6 c7 c8
 clear hlow hc
 go_wp2_with fail
 refine HI.out.mono ?_
 rintro e w3 ⟨rfl,v3,L3,hL⟩
 have HX3:=zzA (hL.rk.nb HX2.out)
 have hle3:=hL.le
 have hge3:=hL.ge
 have HL3:=zzA (HL2.out.seq (by simp) (codeS ut) hL)
 clear hL kS kS4 c0 c1' c2' c3 c4 c5 c6 c7 c8
 simp only []
 obtain ⟨A3,c3,rfl⟩:=own_shape HL3.out.row.own
 obtain ⟨g,rfl,hg0,hg1⟩:=HL3.out.slice (by omega)
 have kX:w3.cell? ⟨w.heap.size,5,none⟩=some (.int .i64 1):=HX3.out.blk.cell 5
 have hgr:g≠rb:=fun e=>HL3.out.row.sep (by rw [e];rfl)
 go_wp2_with fail
 obtain ⟨a3,ha3⟩:∃ a,L3[L.length]?=some a:=⟨_,zzJ (by omega)⟩
 have HA3:=zzA ha3
 have hlt3:L.length < L3.length:=by omega
 have HN2:=zzA hn2
 have HA2:=zzA ha2
 have HE2:=zzA hL2
 clear ha3 hn2 ha2 hL2 kX
 have e0:w3.drew.cell? ⟨rb,0,none⟩=some (.slice (some ⟨g,0,none⟩) L3.length c3):=HL3.out.row.blk.cell 0
 have hy0:w3.cell? ⟨g,L.length*5+2,none⟩=some _:=HL3.out.cellY rfl HA3.out
 have fy0:=HL3.out.frozen rfl (L.length*5+2)
 have hb0:(0:Int)≤(L.length:Int):=by omega
 have hb1:(L.length:Int) < (L3.length:Int):=by omega
 have hN:=zzA (next_cell rb (some ⟨g,0,none⟩) L3.length c3 w3.drew e0)
 go_region_held3 (fun w'=>w'.cell? ⟨rb,0,none⟩=some (.slice (some ⟨g,0,none⟩) L3.length c3)) (first | with_reducible exact e0 | exact (World.cell?_setCell_far _ _ _ _ hgr).trans e0 | go_keep) (first | (go_at_call 44;refine hN.out.mono ?_;rintro e wn ⟨rfl,hwn⟩;subst wn;simp only []))
 clear e0 hy0 fy0
 have hLf:=(HL3.out.setY rfl HA3.out (zzF _) (L3.length:Int)).drew
 have hXf:NB rb w.heap.size 25 [.int .i64 k,.slice ra r.length rc,.int .i64 ast,.slice (some ⟨b,off,none⟩) l.length sc,.int .i64 0,.int .i64 (1),.bool z,.int .i64 ix,.string nm] (.slice (some ⟨g,0,none⟩) L3.length c3) (w3.setCell ⟨g,L.length*5+2,none⟩ (.int .i64 L3.length)).drew:=((RowI.set_k).trans (RKI.of_below (bdrewN (zzb _ _) 1))).nb HX3.out
 obtain ⟨Lf,hLf0⟩:∃ q,q=L3.set L.length (atI a3 (fY (L3.length:Int) a3.I)):=⟨_,rfl⟩
 rw [←hLf0] at hLf
 have hkf:L3.length=Lf.length:=by rw [hLf0,zzu]
 have haf:Lf[L.length]?=some (atI a3 (fY (L3.length:Int) a3.I)):=by rw [hLf0,List.getElem?_set_self (by omega)]
 generalize (w3.setCell ⟨g,L.length*5+2,none⟩ (.int .i64 L3.length)).drew=wf at *
 have kZ:wf.cell? ⟨w.heap.size,6,none⟩=some (.bool z):=hXf.blk.cell 6
 have e0:wf.cell? ⟨rb,0,none⟩=some (.slice (some ⟨g,0,none⟩) L3.length c3):=hLf.row.blk.cell 0
 have hx0:wf.cell? ⟨g,L.length*5+1,none⟩=some _:=hLf.cellX hkf haf
 have hy0:wf.cell? ⟨g,L.length*5+2,none⟩=some _:=hLf.cellY hkf haf
 have fx0:=hLf.frozen hkf (L.length*5+1)
 have fy0:=hLf.frozen hkf (L.length*5+2)
 simp only [atI,fX,fY] at hx0 hy0
 have HLf:=zzA hLf
 have HKF:=zzA hkf
 have HAF:=zzA haf
 clear hLf hXf hLf0 hkf haf
 cases z with
 | false =>
  go_wp2_with fail
  go_end0
  refine ⟨rfl,_,_,HLf.out.finish (by omega) fun hl=>?_⟩
  have:=HKF.out
  have h2:=HL3.out.length (by simp [code_length];omega) (by omega)
  have e3:(L3.length:Int)=((L.length+1+lenS ut:Nat):Int):=by omega
  rw [Nat.sub_self,e3]
  simp only [zzn,zzi,List.modify_zero_cons]
  rfl
 | true =>
  go_wp2_with fail
  go_region
  go_end0
  have hE:=(HLf.out.setXY HKF.out HAF.out (by omega) (L3.length:Int) a3.I.x).drew
  refine ⟨rfl,_,_,LP.finish hE (by omega) fun hl=>?_⟩
  rw [zzu] at hl
  have:=HKF.out
  have h2:=HL3.out.length (by simp [code_length];omega) (by omega)
  have e3:(L3.length:Int)=((L.length+1+lenS ut:Nat):Int):=by omega
  have hai:=HL3.out.at0 HA3.out (by omega)
  rw [Nat.sub_self,e3,hai]
  simp only [zzn,zzi,List.modify_zero_cons]
  rfl
end Go.Proofs.YtgkclnmmjedmkaaGreat
