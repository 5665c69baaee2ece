/- meaning.Parses: the answer. -/
import Derived.WideMake
import Derived.Test.YtgkclnmmjedmkaaGreatP22
set_option maxRecDepth 100000
set_option maxHeartbeats 4000000
namespace Go.Proofs.YtgkclnmmjedmkaaGreat
open Go.RowKit Tr
theorem parses_ok (k:Int) (r:List (Int × Int)) (ra:Option Addr) (rc:Nat) (ast:Int) (l:List Ta) (sa:Option Addr) (sc:Nat) (mn mx:Int) (z:Bool) (ix:Int) (nm:ByteArray) (S:Nat→Prop) (At:Option Addr) (n c:Nat) (at_:Nat) (t:List Int) (w:World) (h:RT w S (Ta.mk k r ra rc ast l sa sc mn mx z ix nm)) (hS:∀ b,S b→b < w.heap.size) (hn:n≤c) (htx:RdA w S 1 At n c (t.map (Value.int .i64))) (he:parE (Ta.mk k r ra rc ast l sa sc mn mx z ix nm).tr n (at_:Int)=0) :
  Calls Tryz.prog 9 #[(Ta.mk k r ra rc ast l sa sc mn mx z ix nm).val,.slice At n c,(.int .i64 (at_:Int))] w fun e w'=>∃ (A:Option Addr) (oc:Nat) (ps:List (Nat × Option Addr × Nat × List Int)) (u:Mean.Un) (s':Mean.St),e=.returned (.tuple #[.slice A ps.length oc,.int .i64 0])∧Below w.heap.size w w'∧shU u=unfS (Ta.mk k r ra rc ast l sa sc mn mx z ix nm).tr∧(u.all.map Mean.Un.ad).Nodup ∧
   Mean.One t at_ st0 (.beg u at_ (List.replicate (2+2*(greatest (Ta.mk k r ra rc ast l sa sc mn mx z ix nm).tr).toNat) (-1)) .top) s'∧s'.out=ps.map (fun p=>(p.1,p.2.2.2))∧Reads w' w'.heap.size 2 A ps.length oc (outW ps)∧(∀ p∈ps,Reads w' w'.heap.size 1 p.2.1 p.2.2.2.length p.2.2.1 (p.2.2.2.map (Value.int .i64))∧p.2.2.2.length=2+2*(greatest (Ta.mk k r ra rc ast l sa sc mn mx z ix nm).tr).toNat)∧(s'.out.map (·.1)).Nodup∧∀ p∈s'.out,p.1≤t.length:=by
 have hb1:Below w.heap.size w ((w.alloc (.cells #[.int .i64 k,.slice ra r.length rc,.int .i64 ast,.slice sa l.length sc,.int .i64 mn,.int .i64 mx,.bool z,.int .i64 ix,.string nm] 25)).alloc (.cells #[(.int .i64 (at_:Int))] 3)):=((zzb _ _).alloc (zzF _) _).alloc (by simp) _
 have hbk:=(zyI w 25 [.int .i64 k,.slice ra r.length rc,.int .i64 ast,.slice sa l.length sc,.int .i64 mn,.int .i64 mx,.bool z,.int .i64 ix,.string nm]).alloc (.cells #[(.int .i64 (at_:Int))] 3)
 have hba:Blk ((w.alloc (.cells #[.int .i64 k,.slice ra r.length rc,.int .i64 ast,.slice sa l.length sc,.int .i64 mn,.int .i64 mx,.bool z,.int .i64 ix,.string nm] 25)).alloc (.cells #[(.int .i64 (at_:Int))] 3)) (w.heap.size+1) 3 [(.int .i64 (at_:Int))]:=by
  have:=zyI (w.alloc (.cells #[.int .i64 k,.slice ra r.length rc,.int .i64 ast,.slice sa l.length sc,.int .i64 mn,.int .i64 mx,.bool z,.int .i64 ix,.string nm] 25)) 3 [(.int .i64 (at_:Int))]
  rwa [show (w.alloc (.cells #[.int .i64 k,.slice ra r.length rc,.int .i64 ast,.slice sa l.length sc,.int .i64 mn,.int .i64 mx,.bool z,.int .i64 ix,.string nm] 25)).heap.size=w.heap.size+1 from by simp] at this
 obtain ⟨t0,t1,t2,t3,t4,t5,t6,t7,t8⟩:=bc9 (hbk)
 have HT:=zzA h
 have HS:=zzA hS
 have HB1:=zzA hb1
 have HBK:=zzA hbk
 have HBA:=zzA hba
 have hpar:¬64 < n∧soundB (Ta.mk k r ra rc ast l sa sc mn mx z ix nm).tr=true∧¬2000 < uz (Ta.mk k r ra rc ast l sa sc mn mx z ix nm).tr∧¬((n:Int) < (at_:Int)):=by
  unfold parE at he
  split at he
  ·cases he
  split at he
  ·cases he
  split at he
  ·cases he
  split at he
  ·cases he
  ·rename_i a1 a2 a3 a4
   exact ⟨a1,by simpa using a2,a3,fun hx=>a4 (.inr hx)⟩
 obtain ⟨h1,hso,h2,h4⟩:=hpar
 have HTX:=zzA htx
 have htl:t.length=n:=by have:=htx.2.2.1;rw [zzP] at this;omega
 have HSO:=zzA (pSound_any (Ta.mk k r ra rc ast l sa sc mn mx z ix nm) S)
 have HSI:=zzA (msize_any (Ta.mk k r ra rc ast l sa sc mn mx z ix nm) S)
 simp only [Ta.val,Ta.vals] at HSO HSI ⊢
 obtain ⟨tt,htt⟩:∃ tt,tt=(Ta.mk k r ra rc ast l sa sc mn mx z ix nm).tr:=⟨_,rfl⟩
 have HGR:=zzA (mgrt_any (Ta.mk k r ra rc ast l sa sc mn mx z ix nm) S)
 have HUN:=zzA (unfolded_any (Ta.mk k r ra rc ast l sa sc mn mx z ix nm) S)
 simp only [Ta.val,Ta.vals] at HGR HUN
 rw [←htt] at HSO HSI HGR HUN hso h2 ⊢
 have HTT:=zzA htt
 clear h hS hb1 hbk hba htt htx he
 go_enter Tryz.func9,Tryz.ntmps9
 have h1i:¬((64:Int) < (n:Int)):=by omega
 have HSZ:=zzA (show soundB tt=true∧uz tt≤2000∧t.length=n from ⟨hso,by omega,htl⟩)
 clear htl
 go_wp2_with fail
 generalize ((w.alloc (.cells #[.int .i64 k,.slice ra r.length rc,.int .i64 ast,.slice sa l.length sc,.int .i64 mn,.int .i64 mx,.bool z,.int .i64 ix,.string nm] 25)).alloc (.cells #[(.int .i64 (at_:Int))] 3))=w1 at *
 refine (HSO.out w1 (HT.out.below HS.out HB1.out) (fun b hb=>zzQ (HS.out b hb) HB1.out.size)).mono ?_
 rintro e w2 ⟨rfl,hb2⟩
 have hlt0:=HBK.out.lt
 have s0:w2.cell? ⟨w.heap.size,0,none⟩=some (.int .i64 k):=(hb2.cell (p:=⟨w.heap.size,0,none⟩) hlt0).trans t0
 have s1:w2.cell? ⟨w.heap.size,1,none⟩=some (.slice ra r.length rc):=(hb2.cell (p:=⟨w.heap.size,1,none⟩) hlt0).trans t1
 have s2:w2.cell? ⟨w.heap.size,2,none⟩=some (.int .i64 ast):=(hb2.cell (p:=⟨w.heap.size,2,none⟩) hlt0).trans t2
 have s3:w2.cell? ⟨w.heap.size,3,none⟩=some (.slice sa l.length sc):=(hb2.cell (p:=⟨w.heap.size,3,none⟩) hlt0).trans t3
 have s4:w2.cell? ⟨w.heap.size,4,none⟩=some (.int .i64 mn):=(hb2.cell (p:=⟨w.heap.size,4,none⟩) hlt0).trans t4
 have s5:w2.cell? ⟨w.heap.size,5,none⟩=some (.int .i64 mx):=(hb2.cell (p:=⟨w.heap.size,5,none⟩) hlt0).trans t5
 have s6:w2.cell? ⟨w.heap.size,6,none⟩=some (.bool z):=(hb2.cell (p:=⟨w.heap.size,6,none⟩) hlt0).trans t6
 have s7:w2.cell? ⟨w.heap.size,7,none⟩=some (.int .i64 ix):=(hb2.cell (p:=⟨w.heap.size,7,none⟩) hlt0).trans t7
 have s8:w2.cell? ⟨w.heap.size,8,none⟩=some (.string nm):=(hb2.cell (p:=⟨w.heap.size,8,none⟩) hlt0).trans t8
 have HB2:=zzA (HB1.out.trans (hb2.mono HB1.out.size))
 have HBA2:=zzA (HBA.out.below hb2 HBA.out.lt)
 have HBK2:=zzA (HBK.out.below hb2 hlt0)
 clear hb2 hlt0 t0 t1 t2 t3 t4 t5 t6 t7 t8
 unfold sv
 rw [hso]
 simp only []
 have HALL:=zzA (sound_parts hso)
 go_wp2_with fail
 refine (HSI.out w2 (HT.out.below HS.out HB2.out) HALL.out (fun b hb=>zzQ (HS.out b hb) HB2.out.size)).mono ?_
 rintro e w3 ⟨rfl,hb3⟩
 have HB3:=zzA (HB2.out.trans (hb3.mono HB2.out.size))
 have HBA3:=zzA (HBA2.out.below hb3 HBA2.out.lt)
 have HBK3:=zzA (HBK2.out.below hb3 HBK2.out.lt)
 have rat:w3.cell? ⟨w.heap.size+1,0,none⟩=some (.int .i64 (at_:Int)):=HBA3.out.cell 0
 clear hb3 s0 s1 s2 s3 s4 s5 s6 s7 s8
 obtain ⟨q,hq⟩:∃ q:Nat,q=min (uz tt) 2001:=⟨_,rfl⟩
 rw [←hq]
 have hq2:¬((2000:Int) < (q:Int)):=by omega
 have h3:¬((at_:Int) < 0):=by omega
 clear hq
 have hmk:∀ u:World,(Instr.makeMap 64 none).run Tryz.prog u=.ok (.map (some u.heap.size)) (u.alloc (.map #[] 0)):=fun u=>by
  exact run_makeMap_plain u _
 have hgb:=grt_bd tt HALL.out
 have hb34:Below w3.heap.size w3 ((((w3.alloc (.cells #[.slice none 0 0] 36)).alloc (.map #[] 0)).alloc (.cells #[.slice At n c,.map (some (w3.heap.size+1))] 66)).alloc (.cells #[.int .i64 (-1)] 3)):=(((zzb _ _).alloc (zzF _) _).alloc (by simp) _).alloc (by simp;omega) _ |>.alloc (by simp;omega) _
 have HB34:=zzA hb34
 have HBK4:=zzA (HBK3.out.below hb34 HBK3.out.lt)
 have HBA4:=zzA (HBA3.out.below hb34 HBA3.out.lt)
 obtain ⟨v0,v1,v2,v3,v4,v5,v6,v7,v8⟩:=bc9 (HBK4.out)
 have e1:(w3.alloc (.cells #[.slice none 0 0] 36)).heap.size=w3.heap.size+1:=by simp
 have e2:((w3.alloc (.cells #[.slice none 0 0] 36)).alloc (.map #[] 0)).heap.size=w3.heap.size+1+1:=by simp
 have e3:(((w3.alloc (.cells #[.slice none 0 0] 36)).alloc (.map #[] 0)).alloc (.cells #[.slice At n c,.map (some (w3.heap.size+1))] 66)).heap.size=w3.heap.size+1+1+1:=by simp
 have HOB4:=zzA ((((zyI w3 36 [.slice none 0 0]).alloc (.map #[] 0)).alloc (.cells #[.slice At n c,.map (some (w3.heap.size+1))] 66)).alloc (.cells #[.int .i64 (-1)] 3))
 have hn4:=zyI (((w3.alloc (.cells #[.slice none 0 0] 36)).alloc (.map #[] 0)).alloc (.cells #[.slice At n c,.map (some (w3.heap.size+1))] 66)) 3 [.int .i64 (-1)]
 rw [e3] at hn4
 have HN4:=zzA hn4
 have hw4:=(zyI ((w3.alloc (.cells #[.slice none 0 0] 36)).alloc (.map #[] 0)) 66 [.slice At n c,.map (some (w3.heap.size+1))]).alloc (.cells #[.int .i64 (-1)] 3)
 rw [e2] at hw4
 have HWB4:=zzA hw4
 have HM4:=zzA (show ((((w3.alloc (.cells #[.slice none 0 0] 36)).alloc (.map #[] 0)).alloc (.cells #[.slice At n c,.map (some (w3.heap.size+1))] 66)).alloc (.cells #[.int .i64 (-1)] 3)).heap[w3.heap.size+1]?=some (.map #[] 0)∧w3.heap.size+1 < ((((w3.alloc (.cells #[.slice none 0 0] 36)).alloc (.map #[] 0)).alloc (.cells #[.slice At n c,.map (some (w3.heap.size+1))] 66)).alloc (.cells #[.int .i64 (-1)] 3)).heap.size from by
  have h0:=heap_alloc_new (w3.alloc (.cells #[.slice none 0 0] 36)) (.map #[] 0)
  rw [e1] at h0
  refine ⟨(Below.heap_alloc _ _ _ (by simp)).trans ((Below.heap_alloc _ _ _ (by simp)).trans h0),by simp⟩)
 clear hn4 hw4
 simp only []
 go_wp2_with fail
 generalize ((((w3.alloc (.cells #[.slice none 0 0] 36)).alloc (.map #[] 0)).alloc (.cells #[.slice At n c,.map (some (w3.heap.size+1))] 66)).alloc (.cells #[.int .i64 (-1)] 3))=w4 at *
 have HB4:=zzA (HB3.out.trans (HB34.out.mono HB3.out.size))
 refine (HGR.out w4 (HT.out.below HS.out HB4.out) (fun b hb=>zzQ (HS.out b hb) HB4.out.size)).mono ?_
 rintro e w5 ⟨rfl,hb5⟩
 obtain ⟨g0,hg0⟩:∃ g0:Nat,greatest tt=(g0:Int):=⟨(greatest tt).toNat,by omega⟩
 rw [hg0] at hgb ⊢
 have hwg1:IntKind.i64.wrap (2*(g0:Int))=2*(g0:Int):=by rw [zzx];omega
 have hwg2:IntKind.i64.wrap (2+2*(g0:Int))=((2+2*g0:Nat):Int):=by rw [zzx];omega
 have HB45:=zzA hb5
 have HBA5:=zzA (HBA4.out.below hb5 HBA4.out.lt)
 have HBK5:=zzA (HBK4.out.below hb5 HBK4.out.lt)
 have HG0:=zzA hg0
 have HREP:=zzA (repeat_any (w3.heap.size+1+1+1) 0 1 (-1) (2+2*g0) w5 ((hb5.cell (p:=⟨w3.heap.size+1+1+1,0,none⟩) HN4.out.lt).trans (HN4.out.cell 0)) (by omega) (by omega))
 clear hb5 hg0 v0 v1 v2 v3 v4 v5 v6 v7 v8 e1 e2 e3
 simp only []
 go_wp2_with fail
 refine HREP.out.mono ?_
 rintro e w6 ⟨rfl,hb6,hnb6⟩
 have hb46:=HB45.out.trans (hb6.mono HB45.out.size)
 have HBK6:=zzA (HBK5.out.below hb6 HBK5.out.lt)
 have HBA6:=zzA (HBA5.out.below hb6 HBA5.out.lt)
 have HB6:=zzA (HB4.out.trans (hb46.mono HB4.out.size))
 have HB46:=zzA hb46
 have HNB6:=zzA hnb6
 have HOB6:=zzA (HOB4.out.below hb46 HOB4.out.lt)
 have HWB6:=zzA (HWB4.out.below hb46 HWB4.out.lt)
 have HM6:=zzA (show w6.heap[w3.heap.size+1]?=some (.map #[] 0)∧w3.heap.size+1 < w6.heap.size from ⟨(hb46.block _ HM4.out.2).trans HM4.out.1,zzQ HM4.out.2 hb46.size⟩)
 have HOO:=zzA (show w.heap.size+1 < w3.heap.size from HBA3.out.lt)
 have HNO:=zzA (show w3.heap.size+1+1 < w5.heap.size from zzQ HWB4.out.lt HB45.out.size)
 have HP:=zzA (show soundB tt=true∧uz tt≤2000∧g0≤500∧at_≤n∧n≤64∧t.length=n from ⟨HSZ.out.1,HSZ.out.2.1,by omega,by omega,by omega,HSZ.out.2.2⟩)
 have HUU:=zzA (HUN.out w6.drew ((HT.out.below HS.out HB6.out).drewN 1) HALL.out (fun b hb=>zzQ (HS.out b hb) HB6.out.size))
 have hpwa:∀ (w7:World) (u:Mean.Un),shU u=unfS tt→UT w7 S (Fr w6.drew.heap.size [] w7) u→Below w6.drew.heap.size w6.drew w7→_:=fun w7 u hsh7 hut7 hb7=>parses_walk (nb:=w5.heap.size) (S:=S) (T:=Fr w6.drew.heap.size [] w7) (c:=c) (At:=At) (t:=t) HP.out.1 HP.out.2.1 HG0.out HP.out.2.2.1 (hsh7) HP.out.2.2.2.1 HP.out.2.2.2.2.1 HP.out.2.2.2.2.2 HOO.out ((hb7.block _ HM6.out.2).trans HM6.out.1) (HOB6.out.drew.below hb7 HOB6.out.lt) (HWB6.out.drew.below hb7 HWB6.out.lt) ((HBA6.out.drew.below hb7 HBA6.out.lt).cell 0) (HTX.out.go fun b hb=>(hb7.block b (zzQ (HS.out b hb) HB6.out.size)).trans (HB6.out.block b (HS.out b hb))) HS.out hut7 (fun b hb=>⟨hb.2.1,zzQ HWB6.out.lt hb.1⟩) (HNB6.out.drew.below hb7 HNB6.out.lt) HNO.out
 have HPWA:=zzA hpwa
 clear hpwa
 have kA:w6.drew.cell? ⟨w.heap.size,0,none⟩=some (.int .i64 k)∧w6.drew.cell? ⟨w.heap.size,1,none⟩=some (.slice ra r.length rc)∧w6.drew.cell? ⟨w.heap.size,2,none⟩=some (.int .i64 ast)∧w6.drew.cell? ⟨w.heap.size,3,none⟩=some (.slice sa l.length sc)∧w6.drew.cell? ⟨w.heap.size,4,none⟩=some (.int .i64 mn)∧w6.drew.cell? ⟨w.heap.size,5,none⟩=some (.int .i64 mx)∧w6.drew.cell? ⟨w.heap.size,6,none⟩=some (.bool z)∧w6.drew.cell? ⟨w.heap.size,7,none⟩=some (.int .i64 ix)∧w6.drew.cell? ⟨w.heap.size,8,none⟩=some (.string nm)∧w6.drew.cell? ⟨w.heap.size+1,0,none⟩=some (.int .i64 (at_:Int)):=⟨HBK6.out.cell 0,HBK6.out.cell 1,HBK6.out.cell 2,HBK6.out.cell 3,HBK6.out.cell 4,HBK6.out.cell 5,HBK6.out.cell 6,HBK6.out.cell 7,HBK6.out.cell 8,HBA6.out.cell 0⟩
 clear hb6 hb46 hnb6
 simp only []
 go_wp2_with fail
 go_region_held_law (fun u=>u.cell? ⟨w.heap.size,0,none⟩=some (.int .i64 k)∧u.cell? ⟨w.heap.size,1,none⟩=some (.slice ra r.length rc)∧u.cell? ⟨w.heap.size,2,none⟩=some (.int .i64 ast)∧u.cell? ⟨w.heap.size,3,none⟩=some (.slice sa l.length sc)∧u.cell? ⟨w.heap.size,4,none⟩=some (.int .i64 mn)∧u.cell? ⟨w.heap.size,5,none⟩=some (.int .i64 mx)∧u.cell? ⟨w.heap.size,6,none⟩=some (.bool z)∧u.cell? ⟨w.heap.size,7,none⟩=some (.int .i64 ix)∧u.cell? ⟨w.heap.size,8,none⟩=some (.string nm)∧u.cell? ⟨w.heap.size+1,0,none⟩=some (.int .i64 (at_:Int))) (first | with_reducible exact kA | with_reducible exact kB | with_reducible exact kC) (first
  | (go_at_call 29;(with_reducible refine HUU.out.mono ?_);rintro e w7 ⟨u,rfl,hsh7,hut7,hb7⟩;have HSH7:=zzA hsh7;have HUT7:=zzA hut7;have HB7:=zzA hb7;have kB:w7.cell? ⟨w.heap.size,0,none⟩=some (.int .i64 k)∧w7.cell? ⟨w.heap.size,1,none⟩=some (.slice ra r.length rc)∧w7.cell? ⟨w.heap.size,2,none⟩=some (.int .i64 ast)∧w7.cell? ⟨w.heap.size,3,none⟩=some (.slice sa l.length sc)∧w7.cell? ⟨w.heap.size,4,none⟩=some (.int .i64 mn)∧w7.cell? ⟨w.heap.size,5,none⟩=some (.int .i64 mx)∧w7.cell? ⟨w.heap.size,6,none⟩=some (.bool z)∧w7.cell? ⟨w.heap.size,7,none⟩=some (.int .i64 ix)∧w7.cell? ⟨w.heap.size,8,none⟩=some (.string nm)∧w7.cell? ⟨w.heap.size+1,0,none⟩=some (.int .i64 (at_:Int)):=⟨(HBK6.out.drew.below hb7 HBK6.out.lt).cell 0,(HBK6.out.drew.below hb7 HBK6.out.lt).cell 1,(HBK6.out.drew.below hb7 HBK6.out.lt).cell 2,(HBK6.out.drew.below hb7 HBK6.out.lt).cell 3,(HBK6.out.drew.below hb7 HBK6.out.lt).cell 4,(HBK6.out.drew.below hb7 HBK6.out.lt).cell 5,(HBK6.out.drew.below hb7 HBK6.out.lt).cell 6,(HBK6.out.drew.below hb7 HBK6.out.lt).cell 7,(HBK6.out.drew.below hb7 HBK6.out.lt).cell 8,(HBA6.out.drew.below hb7 HBA6.out.lt).cell 0⟩;have HPW:=zzA (HPWA.out w7 u hsh7 hut7 hb7);clear hsh7 hut7 hb7;simp only [])
  | (go_at_call 28;(with_reducible refine HPW.out.mono ?_);rintro e w8 ⟨rfl,hb8,hc8⟩;have HB8:=zzA hb8;have HC8:=zzA hc8;have kC:w8.cell? ⟨w.heap.size,0,none⟩=some (.int .i64 k)∧w8.cell? ⟨w.heap.size,1,none⟩=some (.slice ra r.length rc)∧w8.cell? ⟨w.heap.size,2,none⟩=some (.int .i64 ast)∧w8.cell? ⟨w.heap.size,3,none⟩=some (.slice sa l.length sc)∧w8.cell? ⟨w.heap.size,4,none⟩=some (.int .i64 mn)∧w8.cell? ⟨w.heap.size,5,none⟩=some (.int .i64 mx)∧w8.cell? ⟨w.heap.size,6,none⟩=some (.bool z)∧w8.cell? ⟨w.heap.size,7,none⟩=some (.int .i64 ix)∧w8.cell? ⟨w.heap.size,8,none⟩=some (.string nm)∧w8.cell? ⟨w.heap.size+1,0,none⟩=some (.int .i64 (at_:Int)):=⟨((HBK6.out.drew.below HB7.out HBK6.out.lt).below hb8 (zzQ (Nat.lt_succ_self _) (zzo HOO.out))).cell 0,((HBK6.out.drew.below HB7.out HBK6.out.lt).below hb8 (zzQ (Nat.lt_succ_self _) (zzo HOO.out))).cell 1,((HBK6.out.drew.below HB7.out HBK6.out.lt).below hb8 (zzQ (Nat.lt_succ_self _) (zzo HOO.out))).cell 2,((HBK6.out.drew.below HB7.out HBK6.out.lt).below hb8 (zzQ (Nat.lt_succ_self _) (zzo HOO.out))).cell 3,((HBK6.out.drew.below HB7.out HBK6.out.lt).below hb8 (zzQ (Nat.lt_succ_self _) (zzo HOO.out))).cell 4,((HBK6.out.drew.below HB7.out HBK6.out.lt).below hb8 (zzQ (Nat.lt_succ_self _) (zzo HOO.out))).cell 5,((HBK6.out.drew.below HB7.out HBK6.out.lt).below hb8 (zzQ (Nat.lt_succ_self _) (zzo HOO.out))).cell 6,((HBK6.out.drew.below HB7.out HBK6.out.lt).below hb8 (zzQ (Nat.lt_succ_self _) (zzo HOO.out))).cell 7,((HBK6.out.drew.below HB7.out HBK6.out.lt).below hb8 (zzQ (Nat.lt_succ_self _) (zzo HOO.out))).cell 8,((HBA6.out.drew.below HB7.out HBA6.out.lt).below hb8 HOO.out).cell 0⟩;clear hb8 hc8;simp only []))
 all_goals
  obtain ⟨A,oc,ps,s',hone,hps,hcl,hrd,hpr,hnd,hle⟩:=HC8.out
  have HON:=zzA hone
  have HPS:=zzA hps
  have HRD:=zzA hrd
  have HPR:=zzA hpr
  have HND:=zzA hnd
  have HLE:=zzA hle
  clear hone hps hrd hpr hnd hle HC8
  go_wp2_with fail
  go_ret2
  refine ⟨A,oc,ps,u,s',rfl,?_,HSH7.out,HUT7.out.nodup,?_,HPS.out,HRD.out,?_,HND.out,HLE.out⟩
  ·exact (bdrewN HB6.out 1).trans (((HB7.out.mono HB6.out.size).trans (HB8.out.mono (zzo (Nat.lt_trans (Nat.lt_succ_self _) HOO.out)))))
  ·rw [HG0.out];exact HON.out
  ·rw [HG0.out];exact HPR.out
theorem rt_up {w w':World} {S:Nat→Prop} {t:Ta} (h:RT w S t) (hS:∀ b,S b→b < w.heap.size) (hb:Below w.heap.size w w'):RT w' (· < w'.heap.size) t :=
 (h.go fun b h=>hb.block b (hS b h)).mono fun b h=>zzQ (hS b h) hb.size
theorem rd_up {w w':World} {S:Nat→Prop} {size n c:Nat} {A:Option Addr} {xs:List Value} (h:RdA w S size A n c xs) (hS:∀ b,S b→b < w.heap.size) (hb:Below w.heap.size w w'):RdA w' (· < w'.heap.size) size A n c xs :=
 (h.go fun b h=>hb.block b (hS b h)).mono fun b h=>zzQ (hS b h) hb.size
def PsOf (t:List Int) (a0:Nat) (tr:Tr.Tr) (ps:List (Nat × Option Addr × Nat × List Int)):Prop :=
 ∃ (u:Mean.Un) (s':Mean.St),shU u=unfS tr∧(u.all.map Mean.Un.ad).Nodup∧Mean.One t a0 st0 (.beg u a0 (List.replicate (2+2*(greatest tr).toNat) (-1)) .top) s'∧s'.out=ps.map (fun p=>(p.1,p.2.2.2))∧∀ p∈ps,p.2.2.2.length=2+2*(greatest tr).toNat
def LeftP (t:List Int) (n:Nat) (at_:Int) (tr:Tr.Tr) (w:World) (A:Option Addr) (m oc:Nat):Prop :=
 parE tr n at_=0→∃ (a0:Nat) (ps:List (Nat × Option Addr × Nat × List Int)),at_=(a0:Int)∧m=ps.length∧PsOf t a0 tr ps∧Reads w w.heap.size 2 A ps.length oc (outW ps)∧∀ p∈ps,Reads w w.heap.size 1 p.2.1 p.2.2.2.length p.2.2.1 (p.2.2.2.map (Value.int .i64))
theorem par_parts {t:Tr.Tr} {n:Nat} {at_:Int} (h:parE t n at_=0):soundB t=true∧0≤at_∧at_≤(n:Int):=by
 unfold parE at h
 split at h
 ·cases h
 split at h
 ·cases h
 split at h
 ·cases h
 split at h
 ·cases h
 ·rename_i a1 a2 a3 a4
  exact ⟨by simpa using a2,by omega,by omega⟩
theorem parses_all (u:Ta) (S:Nat→Prop) (At:Option Addr) (n c:Nat) (at_:Int) (t:List Int) (w:World) (h:RT w S u) (hS:∀ b,S b→b < w.heap.size) (hn:n≤c) (htx:RdA w S 1 At n c (t.map (Value.int .i64))) :
  Calls Tryz.prog 9 #[u.val,.slice At n c,.int .i64 at_] w fun e w'=>∃ A m oc,e=.returned (.tuple #[.slice A m oc,.int .i64 (parE u.tr n at_)])∧Below w.heap.size w w'∧LeftP t n at_ u.tr w' A m oc:=by
 cases u with
 | mk k r ra rc ast l sa sc mn mx z ix nm =>
 by_cases he:parE (Ta.mk k r ra rc ast l sa sc mn mx z ix nm).tr n at_=0
 ·obtain ⟨a0,rfl⟩:∃ a0:Nat,at_=(a0:Int):=⟨at_.toNat,by have:=par_parts he;omega⟩
  refine (parses_ok k r ra rc ast l sa sc mn mx z ix nm S At n c a0 t w h hS hn htx he).mono ?_
  rintro e w' ⟨A,oc,ps,v,s',rfl,hb,h1,h2,h3,h4,h5,h6,-,-⟩
  exact ⟨A,ps.length,oc,by rw [he],hb,fun _=>⟨a0,ps,rfl,rfl,⟨v,s',h1,h2,h3,h4,fun p hp=>(h6 p hp).2⟩,h5,fun p hp=>(h6 p hp).1⟩⟩
 ·refine (parses_err k r ra rc ast l sa sc mn mx z ix nm S At n c at_ w h hS hn he).mono ?_
  rintro e w' ⟨rfl,hb⟩
  exact ⟨none,0,0,rfl,hb,fun h=>absurd h he⟩
end Go.Proofs.YtgkclnmmjedmkaaGreat
