/- meaning.walker.begin: x*. -/
import Derived.Test.YtgkclnmmjedmkaaGreatP05
set_option maxRecDepth 100000
set_option maxHeartbeats 4000000
namespace Go.Proofs.YtgkclnmmjedmkaaGreat
open Go.RowKit
theorem beg_s (G:Wk) (hwf:G.wf) (s s':Mean.St) (n:Mean.Un) (pl:Nat) (nt:List Int) (K:Mean.Kt) (hkind:n.kind=-2) (hm:s.met (n.ad,pl,false)=0) (h:G.chain (s.mark (n.ad,pl,false)) (Mean.first G.t n pl nt K) s') (hb:s.calls≤4611686018427387904):G.does s (.beg n pl nt K) s':=by
 intro hn hpl hlen w v N c hc hs hr hk
 obtain ⟨vf,vc,rfl,hgo⟩:=kv_func hk
 obtain ⟨f3,hs3,x1,x2,x3⟩:=boxes3 hc hs 63 69 104 (.pointer (some ⟨G.wb,0,none⟩)) (.pointer (some ⟨n.ad,0,none⟩)) (.func (Fn.func vf) #[] vc)
 have HF3:=zzA f3
 have HC3:=zzA (hc.fr f3)
 have HR3:=zzA (hr.fr f3)
 have HK3:=zzA (Wk.kv_fr f3 hk)
 have HON:=zzA (once_any G _ s (n.ad,pl,false) (hc.fr f3) hs3 ⟨n,hn,rfl⟩ hb)
 have X1:=zzA x1
 have X2:=zzA x2
 have X3:=zzA x3
 have c1:=x1.2
 have c2:=x2.2
 have c3:=x3.2
 have HH:=zzA h
 have HWF:=zzA hwf
 clear f3 hs3 x1 x2 x3 hc hs hr hk h hwf
 generalize hw3:((w.alloc (.cells #[.pointer (some ⟨G.wb,0,none⟩)] 63)).alloc (.cells #[.pointer (some ⟨n.ad,0,none⟩)] 69)).alloc (.cells #[.func (Fn.func vf) #[] vc] 104)=w3 at *
 unfold kv at HON
 generalize hq1:w.heap.size=q1 at *
 go_enter Tryz.func28,Tryz.ntmps28
 go_wp2_with fail
 refine HON.out.mono ?_
 rintro e w4 ⟨rfl,hf4,hs4⟩
 have HF4:=zzA hf4
 have HS4:=zzA hs4
 have Y1:=zzA (X1.out.fr hf4)
 have Y2:=zzA (X2.out.fr hf4)
 have Y3:=zzA (X3.out.fr hf4)
 have HC4:=zzA (HC3.out.fr hf4)
 have HR4:=zzA (HR3.out.fr hf4)
 have HK4:=zzA (Wk.kv_fr hf4 HK3.out)
 have m1:=Y1.out.2
 have m2:=Y2.out.2
 have m3:=Y3.out.2
 obtain ⟨ra,rc,sa,sc,hnd⟩:=HC4.out.nodes n hn
 have HND:=zzA hnd
 have n0:w4.cell? ⟨n.ad,0,none⟩=some (.int .i64 n.kind):=hnd.blk.cell 0
 clear hf4 hs4 hnd c1 c2 c3 HON hw3
 rw [hkind] at n0
 have hmd:decide (s.met (n.ad,pl,false)=0)=true:=by simpa using hm
 rw [hmd]
 have hh:=HH.out
 unfold Mean.first at hh
 simp only [hkind] at hh
 clear hmd HH
 simp only [reduceIte,Int.reduceNeg,Int.reduceEq] at hh
 obtain ⟨s1,h1,rfl⟩:=hh
 have HCH:=zzA (h1 hn hpl hlen w4 _ N c HC4.out HS4.out HR4.out HK4.out)
 clear h1
 simp only []
 go_wp2_with fail
 refine HCH.out.mono ?_
 rintro e w5 ⟨rfl,hx⟩
 have HX:=zzA hx
 clear hx
 simp only []
 go_wp2_with fail
 go_end0
 exact ⟨rfl,HF3.out.trans (HF4.out.trans HX.out.1),HX.out.2⟩
theorem beg_p (G:Wk) (hwf:G.wf) (s s':Mean.St) (n:Mean.Un) (pl:Nat) (nt:List Int) (K:Mean.Kt) (hkind:n.kind=-3) (hm:s.met (n.ad,pl,false)=0) (h:G.chain (s.mark (n.ad,pl,false)) (Mean.first G.t n pl nt K) s') (hb:s.calls≤4611686018427387904):G.does s (.beg n pl nt K) s':=by
 intro hn hpl hlen w v N c hc hs hr hk
 obtain ⟨vf,vc,rfl,hgo⟩:=kv_func hk
 obtain ⟨f3,hs3,x1,x2,x3⟩:=boxes3 hc hs 63 69 104 (.pointer (some ⟨G.wb,0,none⟩)) (.pointer (some ⟨n.ad,0,none⟩)) (.func (Fn.func vf) #[] vc)
 have HF3:=zzA f3
 have HC3:=zzA (hc.fr f3)
 have HR3:=zzA (hr.fr f3)
 have HK3:=zzA (Wk.kv_fr f3 hk)
 have HON:=zzA (once_any G _ s (n.ad,pl,false) (hc.fr f3) hs3 ⟨n,hn,rfl⟩ hb)
 have X1:=zzA x1
 have X2:=zzA x2
 have X3:=zzA x3
 have c1:=x1.2
 have c2:=x2.2
 have c3:=x3.2
 have HH:=zzA h
 have HWF:=zzA hwf
 clear f3 hs3 x1 x2 x3 hc hs hr hk h hwf
 generalize hw3:((w.alloc (.cells #[.pointer (some ⟨G.wb,0,none⟩)] 63)).alloc (.cells #[.pointer (some ⟨n.ad,0,none⟩)] 69)).alloc (.cells #[.func (Fn.func vf) #[] vc] 104)=w3 at *
 unfold kv at HON
 generalize hq1:w.heap.size=q1 at *
 go_enter Tryz.func28,Tryz.ntmps28
 go_wp2_with fail
 refine HON.out.mono ?_
 rintro e w4 ⟨rfl,hf4,hs4⟩
 have HF4:=zzA hf4
 have HS4:=zzA hs4
 have Y1:=zzA (X1.out.fr hf4)
 have Y2:=zzA (X2.out.fr hf4)
 have Y3:=zzA (X3.out.fr hf4)
 have HC4:=zzA (HC3.out.fr hf4)
 have HR4:=zzA (HR3.out.fr hf4)
 have HK4:=zzA (Wk.kv_fr hf4 HK3.out)
 have m1:=Y1.out.2
 have m2:=Y2.out.2
 have m3:=Y3.out.2
 obtain ⟨ra,rc,sa,sc,hnd⟩:=HC4.out.nodes n hn
 have HND:=zzA hnd
 have n0:w4.cell? ⟨n.ad,0,none⟩=some (.int .i64 n.kind):=hnd.blk.cell 0
 clear hf4 hs4 hnd c1 c2 c3 HON hw3
 rw [hkind] at n0
 have hmd:decide (s.met (n.ad,pl,false)=0)=true:=by simpa using hm
 rw [hmd]
 have hh:=HH.out
 unfold Mean.first at hh
 simp only [hkind] at hh
 clear hmd HH
 simp only [reduceIte,Int.reduceNeg,Int.reduceEq] at hh
 have fd:G.fr w4 w4.drew:=HC4.out.below (bdrewN (zzb _ _) 1)
 have HFD:=zzA fd
 have HCD:=zzA (HC4.out.fr fd)
 have HSD:=zzA (HS4.out.kept_below HC4.out (bdrewN (zzb _ _) 1))
 have HRD:=zzA (HR4.out.fr fd)
 have HKD:=zzA (Wk.kv_fr fd HK4.out)
 have Z1:=zzA (Y1.out.fr fd)
 have Z2:=zzA (Y2.out.fr fd)
 have Z3:=zzA (Y3.out.fr fd)
 have HNDD:=zzA (HND.out.fr fd)
 clear fd
 obtain ⟨s0,l0,hsub⟩:∃ s0 l0,n.subs=s0 :: l0:=by
  cases e:n.subs with
  | nil=>exact absurd e (HWF.out.one n hn (.inr (.inr (.inr hkind))))
  | cons a l=>exact ⟨a,l,rfl⟩
 have hs0:s0∈G.U:=HWF.out.closed n hn s0 (by rw [hsub];exact zzH)
 have hlen0:n.subs.length=l0.length+1:=by rw [hsub];rfl
 have hrd:=HNDD.out.subs
 rw [hlen0] at hrd
 obtain ⟨ab,ao,rfl,hab,hac⟩:=rd_pos hrd (by omega)
 have HAB:=zzA hab
 have c0:w4.drew.cell? ⟨ab,ao+0,none⟩=some (.pointer (some ⟨s0.ad,0,none⟩)):=hac 0 _ (by rw [hsub];rfl)
 rw [Nat.add_zero] at c0
 have n5:w4.drew.cell? ⟨n.ad,5,none⟩=some (.slice (some ⟨ab,ao,none⟩) (l0.length+1) sc):=by have:=HNDD.out.blk.cell 5;rw [hlen0] at this;exact this
 have hgt:(0:Int) < ((l0.length:Int)+1):=by omega
 rw [hsub] at hh
 simp only [] at hh
 clear hrd hab hac
 obtain ⟨s1,h1,rfl⟩:=hh
 have hkv:G.kv w4.drew (.dec n K) (.func (Fn.func 54) #[] #[.pointer (some ⟨q1,0,none⟩),.pointer (some ⟨q1+1,0,none⟩),.pointer (some ⟨q1+1+1,0,none⟩)]) :=
  ⟨_,_,_,_,_,.inl rfl,rfl,Z1.out,Z2.out,hn,Z3.out,HKD.out⟩
 have HBG:=zzA (h1 hs0 hpl hlen w4.drew _ N c HCD.out HSD.out HRD.out hkv)
 have kA:w4.drew.cell? ⟨q1,0,none⟩=some (.pointer (some ⟨G.wb,0,none⟩))∧w4.drew.cell? ⟨q1+1,0,none⟩=some (.pointer (some ⟨n.ad,0,none⟩))∧w4.drew.cell? ⟨n.ad,5,none⟩=some (.slice (some ⟨ab,ao,none⟩) (l0.length+1) sc)∧w4.drew.cell? ⟨ab,ao,none⟩=some (.pointer (some ⟨s0.ad,0,none⟩)):=And.intro (Z1.out.2) (And.intro (Z2.out.2) (And.intro (n5) (c0)))
 clear h1 hkv n5 c0 hsub
 simp only []
 go_wp2_with fail
 go_region_held_law (fun u=>u.cell? ⟨q1,0,none⟩=some (.pointer (some ⟨G.wb,0,none⟩))∧u.cell? ⟨q1+1,0,none⟩=some (.pointer (some ⟨n.ad,0,none⟩))∧u.cell? ⟨n.ad,5,none⟩=some (.slice (some ⟨ab,ao,none⟩) (l0.length+1) sc)∧u.cell? ⟨ab,ao,none⟩=some (.pointer (some ⟨s0.ad,0,none⟩))) (first | with_reducible exact kA | with_reducible exact kB)
  (first | (go_at_call 28;(with_reducible refine HBG.out.mono ?_);rintro e w5 ⟨rfl,hx⟩;have HX:=zzA hx;have kB:=And.intro ((Z1.out.1.cell hx.1 (0)).trans kA.1) (And.intro ((Z2.out.1.cell hx.1 (0)).trans kA.2.1) (And.intro ((HNDD.out.still.cell hx.1 (5)).trans kA.2.2.1) ((HAB.out.cell hx.1 (ao)).trans kA.2.2.2)));clear hx;simp only []))
 go_wp2_with fail
 go_end0
 exact ⟨rfl,HF3.out.trans (HF4.out.trans (HFD.out.trans HX.out.1)),HX.out.2⟩
theorem lensW (l:List (Nat × Option Addr × Nat × List Int)):(outW l).length=l.length*2:=by
 unfold outW
 induction l with
 | nil=>rfl
 | cons a l ih=>rw [zzl,zzG,ih,zzO];simp;omega
theorem outW_get:∀ (l:List (Nat × Option Addr × Nat × List Int)) (i:Nat) (p:Nat × Option Addr × Nat × List Int),l[i]?=some p→(outW l)[i*2]?=some (.int .i64 (p.1:Int))∧(outW l)[i*2+1]?=some (.slice p.2.1 p.2.2.2.length p.2.2.1)
 | [],i,p,h=>by simp at h
 | q :: l,0,p,h=>by
  simp only [zzR,zzd] at h
  subst h
  exact ⟨rfl,rfl⟩
 | q :: l,i+1,p,h=>by
  have:=outW_get l i p (by simpa using h)
  have e1:(i+1)*2=i*2+1+1:=by omega
  unfold outW at this ⊢
  rw [e1,zzl]
  exact this
theorem outW_append (a b:List (Nat × Option Addr × Nat × List Int)):outW (a++b)=outW a++outW b:=by unfold outW;rw [List.flatMap_append]
def endB (l:List (Nat × Option Addr × Nat × List Int)) (pl:Nat):Bool:=l.any fun p=>p.1==pl
theorem endC_any (x:Nat) (y:Value) (pl bx:Nat) (w:World) (hy:y.oneCell'=true) (hc:w.cell? ⟨bx,0,none⟩=some (.int .i64 (pl:Int))) :
  Calls Tryz.prog 32 #[.agg #[.int .i64 (x:Int),y],.pointer (some ⟨bx,0,none⟩)] w fun e w'=>e=.returned (.bool (x==pl))∧Below w.heap.size w w':=by
 have hlt:=zze w _ hc
 have hbe:Below w.heap.size w (w.alloc (.cells #[.int .i64 (x:Int),y] 44)):=(zzb _ _).alloc (zzF _) _
 have hc0:(w.alloc (.cells #[.int .i64 (x:Int),y] 44)).cell? ⟨w.heap.size,0,none⟩=some (.int .i64 (x:Int)):=(zyI w _ [.int .i64 (x:Int),y]).cell 0
 have hc1:(w.alloc (.cells #[.int .i64 (x:Int),y] 44)).cell? ⟨bx,0,none⟩=some (.int .i64 (pl:Int)):=(hbe.cell (p:=⟨bx,0,none⟩) hlt).trans hc
 by_cases h1:x=pl
 ·subst h1
  go_enter Tryz.func32,Tryz.ntmps32
  go_wp2_with fail
  go_ret
  exact ⟨ret_bool (by first | rfl | simp),hbe⟩
 ·have h2:¬((x:Int)=(pl:Int)):=by omega
  have h3:(x==pl)=false:=zzh.2 h1
  rw [h3]
  go_enter Tryz.func32,Tryz.ntmps32
  go_wp2_with fail
  go_ret
  exact ⟨ret_bool (zzh.2 h2),hbe⟩
theorem endI_any (A:Option Addr) (n c bx pl:Nat) (l:List (Nat × Option Addr × Nat × List Int)) (w:World) (hr:Reads w w.heap.size 2 A n c (outW l)) (hbx:w.cell? ⟨bx,0,none⟩=some (.int .i64 (pl:Int))) :
  Calls Tryz.prog 58 #[.slice A n c,.func (.func 32) #[] #[.pointer (some ⟨bx,0,none⟩)]] w fun e w'=>(∃ k:Int,e=.returned (.int .i64 k)∧decide (0≤k)=endB l pl)∧Below w.heap.size w w':=by
 obtain ⟨B,hB⟩:∃ B,B=w.heap.size:=⟨_,rfl⟩
 have hbl:=zze w _ hbx
 simp only [] at hbl
 rw [←hB] at hr hbl
 rw [←hB]
 have hBs:B≤w.heap.size:=by omega
 have hlen:l.length=n:=by have:=hr.len;rw [lensW] at this;omega
 have HLEN:=zzA hlen
 have hnc:=hr.le
 have hcap:=hr.cap
 have HR:=zzA hr
 have HBX:=zzA hbx
 clear hB hlen hr hbx
 go_enter Tryz.func58,Tryz.ntmps58
 go_wp2_with fail
 go_loopw [8] (fun p wr=>∃ i:Nat,i≤n∧p=.int .i64 i∧(∀ x∈l.take i,(x.1==pl)=false)∧Below B w wr) (fun p _=>n - (intOf p).toNat)
 case atStart=>exact ⟨0,zzZ _,rfl,by simp,zzb _ _⟩
 case round =>
  obtain ⟨i,hi1,rfl,hno,hbel⟩:=hrel
  have hszr:B≤wr.heap.size:=by have:=hbel.size;omega
  have HNO:=zzA hno
  clear hno
  by_cases hlt:i < n
  ·obtain ⟨x,hx⟩:∃ x,l[i]?=some x:=⟨_,zzJ (by have:=HLEN.out;omega)⟩
   obtain ⟨b,off,rfl,hb,hcell⟩:=(HR.out.below hbel).at_ (by omega)
   have hc1:wr.cell? ⟨b,off+i*2,none⟩=some (.int .i64 (x.1:Int)):=hcell _ _ (outW_get l i x hx).1
   have hc2:wr.cell? ⟨b,off+i*2+1,none⟩=some (.slice x.2.1 x.2.2.2.length x.2.2.1):=by rw [zzy];exact hcell _ _ (outW_get l i x hx).2
   have hcb:wr.cell? ⟨bx,0,none⟩=some (.int .i64 (pl:Int)):=(hbel.cell (p:=⟨bx,0,none⟩) hbl).trans HBX.out
   have HX:=zzA hx
   have HC:=zzA (endC_any x.1 (.slice x.2.1 x.2.2.2.length x.2.2.1) pl bx wr rfl hcb)
   obtain ⟨x1,x2,x3,x4⟩:=x
   clear hcell hx hcb
   cases hd:(x1==pl) with
   | true =>
    have HM:=zzA (show endB l pl=true from List.any_eq_true.2 ⟨(x1,x2,x3,x4),zzL HX.out,hd⟩)
    go_wp2_with (go_at_call 32;refine HC.out.mono ?_;rintro e w1 ⟨rfl,hb1⟩;simp only [hd])
    go_ret
    exact ⟨⟨_,rfl,by rw [HM.out];simp⟩,hbel.trans (hb1.mono hszr)⟩
   | false =>
    go_wp2_with (go_at_call 32;refine HC.out.mono ?_;rintro e w1 ⟨rfl,hb1⟩;simp only [hd])
    go_roundw
    case rel=>exact ⟨i+1,by omega,by go_num,fun y hy=>by
     rw [zyD,HX.out] at hy
     simp only [Option.toList_some,zzM,zzE] at hy
     rcases hy with hy | rfl
     ·exact HNO.out y hy
     ·exact hd,hbel.trans (hb1.mono hszr)⟩
    case measure=>simp [intOf];omega
  ·obtain rfl:i=n:=by omega
   have HM:=zzA (show endB l pl=false from by
    have:=HNO.out
    rw [List.take_of_length_le (by have:=HLEN.out;omega)] at this
    unfold endB
    rw [List.any_eq_false]
    intro x hx
    rw [this x hx];simp)
   go_wp2_with fail
   go_ret
   exact ⟨⟨_,rfl,by rw [HM.out];rfl⟩,hbel⟩
theorem endH_any (A:Option Addr) (n c bx pl:Nat) (l:List (Nat × Option Addr × Nat × List Int)) (w:World) (hr:Reads w w.heap.size 2 A n c (outW l)) (hbx:w.cell? ⟨bx,0,none⟩=some (.int .i64 (pl:Int))) :
  Calls Tryz.prog 31 #[.slice A n c,.func (.func 32) #[] #[.pointer (some ⟨bx,0,none⟩)]] w fun e w'=>e=.returned (.bool (endB l pl))∧Below w.heap.size w w':=by
 have HI:=zzA (endI_any A n c bx pl l w hr hbx)
 clear hr hbx
 go_enter Tryz.func31,Tryz.ntmps31
 go_wp2_with fail
 refine HI.out.mono ?_
 rintro e w1 ⟨⟨k,rfl,hk⟩,hb⟩
 have HK:=zzA hk
 clear hk HI
 go_wp2_with fail
 go_ret
 exact ⟨ret_bool HK.out,hb⟩
theorem parse_info:(Tryz.prog.info? 44).map (fun i=>(i.zero,i.size,i.bytes))=some (some (.agg #[.int .i64 0,.slice none 0 0]),2,32):=by kernel_rfl
theorem endB_map (ps:List (Nat × Option Addr × Nat × List Int)) (pl:Nat):(ps.map fun p=>(p.1,p.2.2.2)).any (fun p=>p.1==pl)=endB ps pl:=by
 unfold endB;rw [List.any_map];rfl
theorem nodup_len {l:List Nat} {m:Nat} (h:l.Nodup) (hm:∀ x∈l,x≤m):l.length≤m+1:=by
 have:=List.Nodup.length_le_of_subset h (l₂:=List.range (m+1)) (fun x hx=>List.mem_range.2 (by have:=hm x hx;omega))
 simpa using this
theorem top_end (G:Wk) (s:Mean.St) (pl:Nat) (nt:List Int) (w4:World) (A A6:Option Addr) (oc c6:Nat) (ps:List (Nat × Option Addr × Nat × List Int)) (B3:Option Addr) (c3:Nat) (caps:List Int) (W5 w5:World)
  (hcaps:caps=(nt.set 0 (G.at_:Int)).set 1 (pl:Int)) (hcl:caps.length=G.NL) (hpl:pl≤G.nt) (hd:endB ps pl=false) (hops:s.out=ps.map fun p=>(p.1,p.2.2.2)) (hc:G.cst w4) (hs:G.st w4 s)
  (hob:Blk w4 G.ob 36 [.slice A s.out.length oc]) (how:w4.ownsRow G.base 44 2 (.slice A s.out.length oc) s.out.length (outW ps))
  (hrd:∀ p∈ps,RdA w4 (G.still w4) 1 p.2.1 p.2.2.2.length p.2.2.1 (p.2.2.2.map (Value.int .i64))∧p.2.2.2.length=G.NL) (hnew:RdA w4 (G.still w4) 1 B3 G.NL c3 (caps.map (Value.int .i64)))
  (hb5:Below w4.heap.size w4 W5) (ha:Appended G.base 44 2 (.slice A s.out.length oc) (.slice A6 (s.out.length+1) c6) s.out.length 1 (outW ps) (outW [(pl,B3,c3,caps)]) W5 w5) :
  G.fr w4 (w5.setCell ⟨G.ob,0,none⟩ (.slice A6 (s.out.length+1) c6))∧G.st (w5.setCell ⟨G.ob,0,none⟩ (.slice A6 (s.out.length+1) c6)) (Mean.ended G.at_ s pl nt):=by
 obtain ⟨es,cl,hmap,hok⟩:=hs.map
 have hobm:G.ob≠G.mb:=fun e=>by
  have h2:=hob.raw
  rw [e,hmap] at h2
  cases h2
 have how5:=own_below how hb5
 have hob5:=(hob.below hb5 hc.ob).grown ha.grown (blk_apart how5 (hob.below hb5 hc.ob) (by decide))
 have hob6:=hob5.set_ 0 (.slice A6 (s.out.length+1) c6)
 have hA:outB G.ob w4=(Value.slice A s.out.length oc).ownBlock:=by unfold outB;rw [hob.cell 0];rfl
 have hne6:∀ b,(Value.slice A6 (s.out.length+1) c6).ownBlock=some b→b≠G.ob:=fun b hb e=>blk_apart ha.own hob5 (by decide) (by rw [hb,e])
 have hk:Kept w4 (w5.setCell ⟨G.ob,0,none⟩ (.slice A6 (s.out.length+1) c6)) (G.mut w4) :=
  (((Kept.of_below (L:=[]) hb5).trans (Kept.of_grown' ha.grown)).trans (zyG ⟨G.ob,0,none⟩ _)).more fun k hk=>by
   simp only [zzn,zzM,zzE,Option.mem_toList,Option.mem_def] at hk
   rcases hk with hk | rfl
   ·exact .inl (mem_mut.2 (.inr (.inr (hA.trans hk))))
   ·exact .inl (mem_mut.2 (.inr (.inl rfl)))
 have hout6:outB G.ob (w5.setCell ⟨G.ob,0,none⟩ (.slice A6 (s.out.length+1) c6))=(Value.slice A6 (s.out.length+1) c6).ownBlock:=by unfold outB;rw [hob6.cell 0];rfl
 have hfr:G.fr w4 (w5.setCell ⟨G.ob,0,none⟩ (.slice A6 (s.out.length+1) c6)):=⟨hk,fun b hb=>by
  rw [hout6] at hb
  rcases ha.at_ with e | e
  ·exact .inl (hA.trans (e.symm.trans hb))
  ·rw [hb] at e
   simp only [zzd] at e
   exact .inr (by rw [e];exact hb5.size),hc.mb,hc.ob⟩
 have hmb:∀ k,(Value.slice A s.out.length oc).ownBlock=some k→k≠G.mb:=fun k hk e=>by
  rcases how.2 with ⟨h0,_⟩ | ⟨b,cap,cur,h0,_,hh,_⟩
  ·rw [h0] at hk;simp [Value.ownBlock] at hk
  ·rw [h0] at hk
   obtain e2:b=k:=by simpa [Value.ownBlock] using hk
   rw [e2,e,hmap] at hh
   cases hh
 refine ⟨hfr,?_⟩
 have hend:Mean.ended G.at_ s pl nt=⟨s.met,s.out++[(pl,caps)],s.calls⟩:=by
  unfold Mean.ended
  rw [if_neg (by rw [hops,endB_map,hd];simp),hcaps]
 rw [hend]
 refine ⟨⟨es,cl,?_,hok⟩,⟨.slice A6 (s.out.length+1) c6,ps++[(pl,B3,c3,caps)],hob6,?_,?_,?_⟩,hs.met,?_,?_⟩
 ·have hk2:Kept w4 (w5.setCell ⟨G.ob,0,none⟩ (.slice A6 (s.out.length+1) c6)) (G.ob :: (Value.slice A s.out.length oc).ownBlock.toList) :=
   (((Kept.of_below (L:=[]) hb5).trans (Kept.of_grown' ha.grown)).trans (zyG ⟨G.ob,0,none⟩ _)).more fun k hk=>by
    simp only [zzn,zzM,zzE] at hk
    rcases hk with hk | rfl
    ·exact .inl (zzI _ hk)
    ·exact .inl zzH
  refine (hk2.block G.mb hc.mb fun hm=>?_).trans hmap
  rcases zzN.1 hm with e | e
  ·exact hobm e.symm
  ·exact hmb G.mb (by simpa using e) rfl
 ·rw [outW_append,zzG]
  exact own_kept ha.own (zyG ⟨G.ob,0,none⟩ _) fun b hb hm=>hne6 b hb (by simpa using hm)
 ·rw [zzT,hops];rfl
 ·intro p hp
  rcases zzM.1 hp with hp | hp
  ·exact ⟨(hrd p hp).1.fr hfr,(hrd p hp).2⟩
  ·simp only [zzE] at hp
   subst hp
   refine ⟨?_,hcl⟩
   simp only [hcl]
   exact hnew.fr hfr
 ·rw [zzT]
  refine List.nodup_append.2 ⟨hs.ends.1,by simp,fun a haa b hb e=>?_⟩
  simp only [zzS,zzt,zzE] at hb
  subst hb e
  obtain ⟨q,hq,e⟩:=zzp.1 haa
  rw [hops] at hq
  obtain ⟨p,hp,rfl⟩:=zzp.1 hq
  have:=List.any_eq_false.1 (show (ps.any fun p=>p.1==a)=false from hd) p hp
  exact this (by simpa using e)
 ·intro p hp
  rcases zzM.1 hp with hp | hp
  ·exact hs.ends.2 p hp
  ·simp only [zzE] at hp
   subst hp
   exact hpl
theorem top_clo (G:Wk) (hwf:G.wf) (s:Mean.St) (pl:Nat) (nt:List Int) (hbase:∀ w,G.cst w→G.base≤w.heap.size):G.does s (.go .top pl nt) (Mean.ended G.at_ s pl nt):=by
 intro hpl hlen w v N c hc hs hr hk
 obtain rfl:v=_:=hk
 refine ⟨_,_,rfl,enters Tryz.func30 (by kernel_rfl) (by kernel_rfl),?_⟩
 obtain ⟨i0,hi,hz0,hz1,hz2⟩:=info_parts parse_info
 obtain ⟨ov,ps,hob,how,hops,hrd⟩:=hs.out
 obtain ⟨A,oc,rfl⟩:=own_shape how
 have hb1:Below w.heap.size w (w.alloc (.cells #[.int .i64 (pl:Int)] 3)):=(zzb _ _).alloc (zzF _) _
 have f1:G.fr w (w.alloc (.cells #[.int .i64 (pl:Int)] 3)):=hc.below hb1
 have HB1:=zzA (zyI w 3 [.int .i64 (pl:Int)])
 have HF1:=zzA f1
 have HC1:=zzA (hc.fr f1)
 have HR1:=zzA (hr.fr f1)
 have HOB1:=zzA (hob.below hb1 hc.ob)
 have HOW1:=zzA (own_below how hb1)
 have HS1:=zzA (hs.kept_below hc hb1)
 have HRD1:=zzA (show ∀ p∈ps,_ from fun p hp=>(And.intro ((hrd p hp).1.fr f1) (hrd p hp).2))
 have hpn:ps.length=s.out.length:=by rw [hops,zzP]
 have hps:ps.length≤G.nt+1:=by
  have:=nodup_len hs.ends.1 (m:=G.nt) (fun x hx=>by obtain ⟨p,hp,rfl⟩:=zzp.1 hx;exact hs.ends.2 p hp)
  rw [zzP] at this
  omega
 have HOPS:=zzA hops
 have hsh:=hwf.short
 have HNL:=zzA hwf.nl
 have HBASE:=zzA (hbase _ (hc.fr f1))
 have hlt:w.heap.size < (w.alloc (.cells #[.int .i64 (pl:Int)] 3)).heap.size:=by simp
 clear f1 hb1 hc hs hr hob how hrd hops hwf hbase
 go_enter Tryz.func30,Tryz.ntmps30
 generalize hg:w.heap.size=g at *
 generalize hw1:w.alloc (.cells #[.int .i64 (pl:Int)] 3)=w1 at *
 have o1:w1.cell? ⟨G.ob,0,none⟩=some (.slice A s.out.length oc):=HOB1.out.cell 0
 have p1:w1.cell? ⟨g,0,none⟩=some (.int .i64 (pl:Int)):=HB1.out.cell 0
 have HEH:=zzA (endH_any A s.out.length oc g pl ps w1 (Reads.of_own HOW1.out) p1)
 go_wp2_with fail
 refine HEH.out.mono ?_
 rintro e w2 ⟨rfl,hb2⟩
 have f2:G.fr w1 w2:=HC1.out.below hb2
 have HF2:=zzA f2
 have HC2:=zzA (HC1.out.fr f2)
 have HS2:=zzA (HS1.out.kept_below HC1.out hb2)
 have HR2:=zzA (HR1.out.fr f2)
 have HOB2:=zzA (HOB1.out.below hb2 HC1.out.ob)
 have HOW2:=zzA (own_below HOW1.out hb2)
 have HB2:=zzA (HB1.out.below hb2 hlt)
 have HZ2:=zzA hb2.size
 clear hb2 f2 o1 p1 HEH
 cases hd:endB ps pl with
 | true =>
  simp only []
  go_wp2_with fail
  refine zzm (results_none rfl _ _ _) rfl ?_
  have he:Mean.ended G.at_ s pl nt=s:=by
   unfold Mean.ended
   rw [if_pos (by rw [HOPS.out,endB_map];exact hd)]
  exact ⟨rfl,HF1.out.trans HF2.out,by rw [he];exact HS2.out⟩
 | false =>
  have HCL:=zzA (clone_any N G.NL c nt w2 HR2.out.2.2.2.1 (HR2.out.reads fun b hb=>hb.1) HNL.out.2)
  simp only []
  go_wp2_with fail
  refine HCL.out.mono ?_
  rintro e w3 ⟨v3,rfl,ho3,hb3⟩
  have hntl:nt.length=G.NL:=hlen
  have hnl:=HNL.out
  rw [hntl] at ho3
  obtain ⟨A3,c3,rfl⟩:=own_shape ho3
  obtain ⟨g3,rfl,-,hg3,hg3'⟩:=own_form ho3 (by omega)
  have f3:G.fr w2 w3:=HC2.out.below hb3
  have HF3:=zzA f3
  have HC3:=zzA (HC2.out.fr f3)
  have HS3:=zzA (HS2.out.kept_below HC2.out hb3)
  have HOB3:=zzA (HOB2.out.below hb3 HC2.out.ob)
  have HOW3:=zzA (own_below HOW2.out hb3)
  have HB3:=zzA (HB2.out.below hb3 (zzQ hlt HZ2.out))
  have HO3:=zzA ho3
  have HBB:=zzA hb3
  have hgg:¬(g=g3):=by have:=HZ2.out;omega
  have hgg':¬(g3=g):=fun e=>hgg e.symm
  have hab:¬(G.ab=g3):=by have:=HC2.out.ab.1.1;omega
  have hab':¬(g3=G.ab):=fun e=>hab e.symm
  have a0:w3.drew.cell? ⟨G.ab,0,none⟩=some (.int .i64 (G.at_:Int)):=HC3.out.ab.2
  have p0:w3.drew.cell? ⟨g,0,none⟩=some (.int .i64 (pl:Int)):=HB3.out.cell 0
  have x0:w3.drew.cell? ⟨g3,0,none⟩=some (.int .i64 (nt.getD 0 0)):=by
   rw [show w3.drew.cell? ⟨g3,0,none⟩=w3.cell? ⟨g3,0,none⟩ from rfl,HO3.out.cellAt 0 (by omega),zza,zzJ (show 0 < nt.length by omega),zzf,zzJ (show 0 < nt.length by omega)];rfl
  have x1:w3.drew.cell? ⟨g3,1,none⟩=some (.int .i64 (nt.getD 1 0)):=by
   rw [show w3.drew.cell? ⟨g3,1,none⟩=w3.cell? ⟨g3,1,none⟩ from rfl,HO3.out.cellAt 1 (by omega),zza,zzJ (show 1 < nt.length by omega),zzf,zzJ (show 1 < nt.length by omega)];rfl
  generalize nt.getD 0 0=y0 at *
  generalize nt.getD 1 0=y1 at *
  have z0:w3.drew.frozen? ⟨g3,0,none⟩=false:=HO3.out.frozenAt 0
  have z1:w3.drew.frozen? ⟨g3,1,none⟩=false:=HO3.out.frozenAt 1
  have x0':w3.cell? ⟨g3,0,none⟩=some (.int .i64 y0):=x0
  have x1':w3.cell? ⟨g3,1,none⟩=some (.int .i64 y1):=x1
  have z0':w3.frozen? ⟨g3,0,none⟩=false:=z0
  have z1':w3.frozen? ⟨g3,1,none⟩=false:=z1
  have p0':w3.cell? ⟨g,0,none⟩=some (.int .i64 (pl:Int)):=p0
  have a0':w3.cell? ⟨G.ab,0,none⟩=some (.int .i64 (G.at_:Int)):=a0
  have l0:(0:Int) < (G.NL:Int):=by omega
  have l1:(1:Int) < (G.NL:Int):=by omega
  clear ho3 hb3 f3 HCL
  simp only []
  go_wp2_with fail
  go_region
  have hb4:Below w2.heap.size w2 ((w3.setCell ⟨g3,0,none⟩ (.int .i64 (G.at_:Int))).setCell ⟨g3,1,none⟩ (.int .i64 (pl:Int))).drew:=bdrewN (zyH HBB.out ((zyG ⟨g3,0,none⟩ _).trans (zyG ⟨g3,1,none⟩ _)) (fun k hk=>by simp at hk;omega) HBB.out.size) 1
  have how4:=((HO3.out.stored 0 (.int .i64 (G.at_:Int))).1.stored 1 (.int .i64 (pl:Int))).1
  rw [set_map_int,set_map_int] at how4
  have hro4:Reads ((w3.setCell ⟨g3,0,none⟩ (.int .i64 (G.at_:Int))).setCell ⟨g3,1,none⟩ (.int .i64 (pl:Int))).drew ((w3.setCell ⟨g3,0,none⟩ (.int .i64 (G.at_:Int))).setCell ⟨g3,1,none⟩ (.int .i64 (pl:Int))).drew.heap.size 1 (some ⟨g3,0,none⟩) G.NL c3 (((nt.set 0 (G.at_:Int)).set 1 (pl:Int)).map (Value.int .i64)):=(Reads.of_own how4).drew
  have hg34:g3 < ((w3.setCell ⟨g3,0,none⟩ (.int .i64 (G.at_:Int))).setCell ⟨g3,1,none⟩ (.int .i64 (pl:Int))).drew.heap.size:=zzQ hg3' (by simp [World.drew])
  generalize hcaps:(nt.set 0 (G.at_:Int)).set 1 (pl:Int)=caps at *
  have hcl:caps.length=G.NL:=by rw [←hcaps,zzu,zzu,hntl]
  generalize hw4:((w3.setCell ⟨g3,0,none⟩ (.int .i64 (G.at_:Int))).setCell ⟨g3,1,none⟩ (.int .i64 (pl:Int))).drew=w4 at *
  clear hw4 how4 a0 p0 x0 x1 z0 z1 x0' x1' z0' z1' p0' a0' HC3 HS3 HOB3 HOW3 HB3 HO3 HF3
  have f24:G.fr w2 w4:=HC2.out.below hb4
  have hst4:G.still w4 g3:=HS2.out.still_new HC2.out hb4 hg3 hg34
  have hrd4:RdA w4 (G.still w4) 1 (some ⟨g3,0,none⟩) G.NL c3 (caps.map (Value.int .i64)) :=
   ⟨hro4.le,hro4.cap,hro4.len,(fun h=>by cases h),fun _=>⟨g3,0,rfl,hst4,fun j u hu=>hro4.cellAt hu⟩⟩
  have HF24:=zzA f24
  have HC4:=zzA (HC2.out.fr f24)
  have HS4:=zzA (HS2.out.kept_below HC2.out hb4)
  have HRD4:=zzA hrd4
  have HOB4:=zzA (HOB2.out.below hb4 HC2.out.ob)
  have HOW4:=zzA (own_below HOW2.out hb4)
  have p4:w4.cell? ⟨g,0,none⟩=some (.int .i64 (pl:Int)):=(HB2.out.below hb4 (zzQ hlt HZ2.out)).cell 0
  have o4:w4.cell? ⟨G.ob,0,none⟩=some (.slice A s.out.length oc):=HOB4.out.cell 0
  have hb5:Below w4.heap.size w4 (w4.alloc (.cells #[.int .i64 (pl:Int),.slice (some ⟨g3,0,none⟩) G.NL c3] 44)):=(zzb _ _).alloc (zzF _) _
  have HB5:=zzA hb5
  have HOB5:=zzA (HOB4.out.below hb5 HC4.out.ob)
  have HOW5:=zzA (own_below HOW4.out hb5)
  have hnew:=own_lit w4 w4.heap.size 44 2 1 #[.int .i64 (pl:Int),.slice (some ⟨g3,0,none⟩) G.NL c3] (outW [(pl,some ⟨g3,0,none⟩,c3,caps)]) (zzF _) (by simp [outW,hcl]) (by simp [lensW]) (by decide)
  have HNEW:=zzA (Reads.of_own hnew)
  have HB24:=zzA hb4
  have hbase5:G.base≤(w4.alloc (.cells #[.int .i64 (pl:Int),.slice (some ⟨g3,0,none⟩) G.NL c3] 44)).heap.size:=zzU (zzU HBASE.out (zzU HF2.out.kept.size hb4.size)) hb5.size
  have hones:∀ u∈outW [(pl,some ⟨g3,0,none⟩,c3,caps)],u.oneCell'=true:=by
   intro u hu
   simp only [outW,zzl,List.flatMap_nil,zzY,zzN,zyA,or_false] at hu
   rcases hu with rfl | rfl <;> rfl
  clear hb4 hb5 hro4 hg34 f24 hst4 hrd4 hnew
  go_wp2_with (at_builtin;refine wpList_append_reads rfl (.tmp 18) (.tmp 22) 36 rfl G.base 44 i0 (.agg #[.int .i64 0,.slice none 0 0]) 2 32 Tryz.underlying36 hi hz0 hz1 hz2 rfl (by decide) _ s.out.length (outW ps) rfl HOW5.out (some ⟨w4.heap.size,0,none⟩) _ 1 1 (outW [(pl,some ⟨g3,0,none⟩,c3,caps)]) rfl (fun h=>by cases h) HNEW.out hones (by unfold maxLen;omega) (by omega) hbase5 ?_;intro v5 w5 ha5;have hob5:=HOB5.out.grown ha5.grown (blk_apart HOW5.out HOB5.out (by decide));have q0:=hob5.cell 0;have q1:=hob5.frozen 0;obtain ⟨A6,c6,h6⟩:=own_shape ha5.own;subst h6)
  go_end0
  have hend:=top_end G s pl nt w4 A A6 oc c6 ps (some ⟨g3,0,none⟩) c3 caps _ w5 hcaps.symm hcl hpl hd HOPS.out HC4.out HS4.out HOB4.out HOW4.out (fun p hp=>⟨(((HRD1.out p hp).1.fr HF2.out).fr HF24.out),(HRD1.out p hp).2⟩) HRD4.out HB5.out ha5
  exact ⟨rfl,HF1.out.trans (HF2.out.trans (HF24.out.trans hend.1)),hend.2⟩
end Go.Proofs.YtgkclnmmjedmkaaGreat
namespace Go.Proofs.YtgkclnmmjedmkaaGreat.Mach
section
variable (p:Prg) (t:List Int)
def nexts (x:Ins) (k:Nat):List (Nat × Nat) :=
 if x.op=1 then (if k < t.length∧memB x.rng (t.getD k 0)=true then [(x.x.toNat,k+1)] else [])
 else if x.op=2 then [(x.x.toNat,k),(x.y.toNat,k)]
 else if x.op=3 then [(x.x.toNat,k)]
 else if x.op=4 then (if asB t k x.arg then [(x.x.toNat,k)] else [])
 else if x.op=7 then [(x.x.toNat,k)]
 else []
def jobs (l:List (Nat × Nat)):List Job:=l.map fun q=>.pair q.1 q.2
def under (x:Ins) (caps:List Int):List Job:=if x.op=3 then [.back x.arg.toNat (caps.getD x.arg.toNat 0)] else []
def capsAt (x:Ins) (k:Nat) (caps:List Int):List Int:=if x.op=3 then caps.set x.arg.toNat k else caps
theorem eff_eq (x:Ins) (k:Nat) (s:MS):eff t x k s=⟨jobs (nexts t x k)++(under x s.caps++s.todo),s.met,capsAt x k s.caps,s.steps,if x.op=5 then some x.arg else s.fin⟩:=by
 unfold eff nexts under capsAt jobs
 by_cases h1:x.op=1
 ·simp only [h1,if_true]
  split <;> simp
 rw [if_neg h1,if_neg h1]
 by_cases h2:x.op=2
 ·simp [h2]
 rw [if_neg h2,if_neg h2]
 by_cases h3:x.op=3
 ·simp [h3]
 rw [if_neg h3,if_neg h3,if_neg h3,if_neg h3]
 by_cases h4:x.op=4
 ·simp only [h4,if_true]
  split <;> simp
 rw [if_neg h4,if_neg h4]
 by_cases h5:x.op=5
 ·simp [h5]
 rw [if_neg h5,if_neg h5]
 by_cases h7:x.op=7
 ·simp [h7]
 rw [if_neg h7,if_neg h7]
 simp
variable (at_:Nat)
def mP (s:MS) (i k:Nat):Prop:=s.met.getD (bitOf t at_ i k) true=true
variable {p t at_}
theorem bit_inj {i k i' k':Nat} (h:JobOk p t at_ (.pair i k)) (h':JobOk p t at_ (.pair i' k')) (e:bitOf t at_ i k=bitOf t at_ i' k'):i=i'∧k=k':=by
 obtain ⟨-,h2,h3⟩:=h
 obtain ⟨-,h2',h3'⟩:=h'
 unfold bitOf places at e
 have hp:0 < t.length - at_+1:=by omega
 have a1:(i*(t.length - at_+1)+(k - at_)) / (t.length - at_+1)=i:=by
  rw [Nat.add_comm,Nat.add_mul_div_right _ _ hp,Nat.div_eq_of_lt (by omega),zzw]
 have a2:(i'*(t.length - at_+1)+(k' - at_)) / (t.length - at_+1)=i':=by
  rw [Nat.add_comm,Nat.add_mul_div_right _ _ hp,Nat.div_eq_of_lt (by omega),zzw]
 rw [e,a2] at a1
 subst a1
 exact ⟨rfl,by omega⟩
theorem mP_set {met:List Bool} {r:List Job} {c:List Int} {n:Nat} {f:Option Int} {s:MS} (hm:s.met=met) (hl:met.length=p.insts.length*places t at_) {i k i' k':Nat} (h:JobOk p t at_ (.pair i k)) (h':JobOk p t at_ (.pair i' k')) :
  mP t at_ ⟨r,met.set (bitOf t at_ i k) true,c,n,f⟩ i' k' ↔ mP t at_ s i' k'∨(i'=i∧k'=k):=by
 unfold mP
 subst hm
 simp only []
 have hb:=bit_lt h
 by_cases e:bitOf t at_ i k=bitOf t at_ i' k'
 ·have hh:=bit_inj h h' e
  rw [←e,zzf,List.getElem?_set_self (by omega)]
  exact ⟨fun _=>.inr ⟨hh.1.symm,hh.2.symm⟩,fun _=>rfl⟩
 ·rw [zzf,zzr e,←zzf]
  refine ⟨.inl,fun hh=>hh.elim id fun hh=>?_⟩
  exact absurd (by rw [hh.1,hh.2]) e
theorem iter_add:∀ (a b:Nat) (s:MS),iter p t at_ (a+b) s=iter p t at_ b (iter p t at_ a s)
 | 0,b,s=>by rw [zzw];rfl
 | a+1,b,s=>by rw [Nat.succ_add,iter,iter_add a b];rfl
theorem Ok.iter_ (hc:checkB p=true):∀ (n:Nat) {s:MS},Ok p t at_ s→Ok p t at_ (iter p t at_ n s)
 | 0,_,h=>h
 | n+1,_,h=>Ok.iter_ hc n (h.step hc)
theorem final_iter (n:Nat) (s:MS):final p t at_ (iter p t at_ n s)=final p t at_ s:=by
 have h:=iter_halts p t at_ (iter p t at_ n s) _ (zzF _)
 rw [←iter_add] at h
 have:=final_of p t at_ h
 rw [iter_add] at this
 exact this
theorem final_halted {s:MS} (h:halted s):final p t at_ s=s:=halt_iter p t at_ h _
theorem final_halts (s:MS):halted (final p t at_ s):=iter_halts p t at_ s _ (zzF _)
theorem set_back (caps:List Int) (a:Nat) (k:Int):(caps.set a k).set a (caps.getD a 0)=caps:=by
 rw [List.set_set]
 by_cases h:a < caps.length
 ·rw [zzf,zzJ h,Option.getD_some,List.set_getElem_self]
 ·rw [List.set_eq_of_length_le (by omega)]
structure Fails (p:Prg) (t:List Int) (F:Nat→Nat→Prop):Prop where
 ok:∀ i k,F i k→i < p.insts.length∧k≤t.length
 next:∀ i k x,F i k→p.insts[i]?=some x→x.op≠5∧∀ q∈nexts t x k,F q.1 q.2
theorem nexts_le {x:Ins} {k:Nat} {q:Nat × Nat} (h:q∈nexts t x k):k≤q.2:=by
 unfold nexts at h
 repeat' split at h
 all_goals simp at h
 all_goals first | (subst h;simp) | (rcases h with rfl | rfl <;> simp)
structure Behind (p:Prg) (t:List Int) (at_:Nat) (F:Nat→Nat→Prop) (r:List Job) (s s':MS):Prop where
 todo:s'.todo=r
 caps:s'.caps=s.caps
 fin:s'.fin=none
 less:unmet s'≤unmet s
 old:∀ i k,mP t at_ s i k→mP t at_ s' i k
 new:∀ i k,JobOk p t at_ (.pair i k)→mP t at_ s' i k→mP t at_ s i k∨F i k
theorem fail_list {F:Nat→Nat→Prop} {n:Nat} (hc:checkB p=true)
  (P:∀ (s:MS) (i k:Nat) (r:List Job),unmet s≤n→Ok p t at_ s→s.fin=none→s.todo=.pair i k :: r→F i k→∃ m,Behind p t at_ F r s (iter p t at_ m s)) :
  ∀ (l:List (Nat × Nat)) (s:MS) (r:List Job),unmet s≤n→Ok p t at_ s→s.fin=none→s.todo=jobs l++r→(∀ q∈l,F q.1 q.2)→∃ m,Behind p t at_ F r s (iter p t at_ m s)
 | [],s,r,_,_,hf,ht,_=>⟨0,ht,rfl,hf,zzF _,fun _ _ h=>h,fun _ _ _ h=>.inl h⟩
 | q :: l,s,r,hn,ho,hf,ht,hl=>by
  obtain ⟨m1,h1⟩:=P s q.1 q.2 (jobs l++r) hn ho hf ht (hl q zzH)
  obtain ⟨m2,h2⟩:=fail_list hc P l _ r (zzU h1.less hn) (ho.iter_ hc m1) h1.fin h1.todo fun q hq=>hl q (zzI _ hq)
  refine ⟨m1+m2,?_⟩
  rw [iter_add]
  exact ⟨h2.todo,h2.caps.trans h1.caps,h2.fin,zzU h2.less h1.less,fun i k h=>h2.old i k (h1.old i k h),fun i k hj h=>(h2.new i k hj h).elim (h1.new i k hj) .inr⟩
theorem fail_pair {F:Nat→Nat→Prop} (hF:Fails p t F) (hc:checkB p=true):∀ (n:Nat) (s:MS) (i k:Nat) (r:List Job),unmet s≤n→Ok p t at_ s→s.fin=none→s.todo=.pair i k :: r→F i k→∃ m,Behind p t at_ F r s (iter p t at_ m s):=by
 intro n
 induction n with
 | zero =>
  intro s i k r hn ho hf ht hik
  have hj:=ho.jobs (.pair i k) (by rw [ht];exact zzH)
  have hq:s.met.getD (bitOf t at_ i k) true=true:=by
   cases hb:s.met.getD (bitOf t at_ i k) true with
   | true=>rfl
   | false =>
    have:=count_set hb
    unfold unmet at hn
    omega
  refine ⟨1,?_⟩
  rw [show iter p t at_ 1 s=mstep p t at_ s from rfl,mstep_met hf ht hq]
  exact ⟨rfl,rfl,hf,zzF _,fun _ _ h=>h,fun _ _ _ h=>.inl h⟩
 | succ n ih =>
  intro s i k r hn ho hf ht hik
  have hj:=ho.jobs (.pair i k) (by rw [ht];exact zzH)
  cases hq:s.met.getD (bitOf t at_ i k) true with
  | true =>
   refine ⟨1,?_⟩
   rw [show iter p t at_ 1 s=mstep p t at_ s from rfl,mstep_met hf ht hq]
   exact ⟨rfl,rfl,hf,zzF _,fun _ _ h=>h,fun _ _ _ h=>.inl h⟩
  | false =>
   obtain ⟨x,hx⟩:∃ x,p.insts[i]?=some x:=⟨_,zzJ hj.1⟩
   obtain ⟨h5,hnx⟩:=hF.next i k x hik hx
   have hst:=mstep_pair hf ht hq hx
   rw [eff_eq,if_neg h5] at hst
   simp only [] at hst
   have ho1:=ho.step hc
   rw [hst] at ho1
   have hum:unmet (mstep p t at_ s)+1=unmet s:=by rw [hst];exact unmet_set (s:=s) hq
   have hmp:∀ i' k',JobOk p t at_ (.pair i' k')→(mP t at_ (mstep p t at_ s) i' k' ↔ mP t at_ s i' k'∨(i'=i∧k'=k)):=fun i' k' hj'=>by rw [hst];exact mP_set (s:=s) rfl ho.met hj hj'
   have hml:∀ i' k',mP t at_ s i' k'→mP t at_ (mstep p t at_ s) i' k':=fun i' k' h=>by
    rw [hst]
    unfold mP at h ⊢
    simp only []
    by_cases e:bitOf t at_ i k=bitOf t at_ i' k'
    ·rw [e] at hq;rw [hq] at h;cases h
    ·rw [zzf,zzr e,←zzf];exact h
   obtain ⟨m,hb⟩:=fail_list hc ih (nexts t x k) (mstep p t at_ s) (under x s.caps++r) (by omega) (ho.step hc) (by rw [hst];exact hf) (by rw [hst]) hnx
   have hcap:(mstep p t at_ s).caps=capsAt x k s.caps:=by rw [hst]
   have hnew:∀ i' k',JobOk p t at_ (.pair i' k')→mP t at_ (iter p t at_ m (mstep p t at_ s)) i' k'→mP t at_ s i' k'∨F i' k':=fun i' k' hj' h=>by
    rcases hb.new i' k' hj' h with h | h
    ·rcases (hmp i' k' hj').1 h with h | ⟨rfl,rfl⟩
     ·exact .inl h
     ·exact .inr hik
    ·exact .inr h
   by_cases h3:x.op=3
   ·have hu:under x s.caps=[.back x.arg.toNat (s.caps.getD x.arg.toNat 0)]:=by unfold under;rw [if_pos h3]
    have hca:capsAt x k s.caps=s.caps.set x.arg.toNat k:=by unfold capsAt;rw [if_pos h3]
    have hbt:=hb.todo
    rw [hu] at hbt
    have hlast:=mstep_back (p:=p) (t:=t) (at_:=at_) hb.fin hbt
    refine ⟨1+m+1,?_⟩
    rw [iter_add,iter_add,show iter p t at_ 1 s=mstep p t at_ s from rfl,show ∀ u:MS,iter p t at_ 1 u=mstep p t at_ u from fun _=>rfl,hlast]
    refine ⟨rfl,?_,hb.fin,?_,fun i' k' h=>hb.old i' k' (hml i' k' h),hnew⟩
    ·show (iter p t at_ m (mstep p t at_ s)).caps.set _ _=_
     rw [hb.caps,hcap,hca,set_back]
    ·have:=hb.less;exact zzU this (by omega)
   ·have hu:under x s.caps=[]:=by unfold under;rw [if_neg h3]
    have hca:capsAt x k s.caps=s.caps:=by unfold capsAt;rw [if_neg h3]
    refine ⟨1+m,?_⟩
    rw [iter_add,show iter p t at_ 1 s=mstep p t at_ s from rfl]
    refine ⟨by rw [hb.todo,hu];rfl,by rw [hb.caps,hcap,hca],hb.fin,by have:=hb.less;omega,fun i' k' h=>hb.old i' k' (hml i' k' h),hnew⟩
structure Sim (p:Prg) (t:List Int) (a1 a2:Nat) (F:Nat→Nat→Prop) (s1 s2:MS):Prop where
 todo:s1.todo=s2.todo
 caps:s1.caps=s2.caps
 fin:s1.fin=s2.fin
 met:∀ i k,JobOk p t a1 (.pair i k)→(mP t a1 s1 i k∨F i k ↔ mP t a2 s2 i k)
theorem jobOk_le {a1 a2:Nat} (h:a2≤a1) {j:Job} (hj:JobOk p t a1 j):JobOk p t a2 j:=by
 cases j with
 | pair i k=>exact ⟨hj.1,zzU h hj.2.1,hj.2.2⟩
 | back c o=>exact hj
theorem sim_final {a1 a2:Nat} {F:Nat→Nat→Prop} (hF:Fails p t F) (hc:checkB p=true) (h12:a2≤a1):∀ (n:Nat) (s1 s2:MS),meas s2≤n→Ok p t a1 s1→Ok p t a2 s2→Sim p t a1 a2 F s1 s2 →
  Sim p t a1 a2 F (final p t a1 s1) (final p t a2 s2):=by
 intro n
 induction n with
 | zero =>
  intro s1 s2 hn ho1 ho2 hs
  have h2:halted s2:=by
   have:=iter_halts p t a2 s2 0 hn
   exact this
  have h1:halted s1:=by unfold halted at h2 ⊢;rw [hs.todo,hs.fin];exact h2
  rw [final_halted h1,final_halted h2]
  exact hs
 | succ n ih =>
  intro s1 s2 hn ho1 ho2 hs
  by_cases h2:halted s2
  ·have h1:halted s1:=by unfold halted at h2 ⊢;rw [hs.todo,hs.fin];exact h2
   rw [final_halted h1,final_halted h2]
   exact hs
  ·have hless:=step_less p t a2 h2
   rw [show final p t a2 s2=final p t a2 (mstep p t a2 s2) from (final_iter 1 s2).symm]
   unfold halted at h2
   simp only [not_or,ne_eq,Classical.not_not] at h2
   obtain ⟨hf2,ht2⟩:=h2
   have hf1:s1.fin=none:=hs.fin.trans hf2
   match hd:s2.todo,ht2 with
   | .back c old :: r,_ =>
    have hd1:s1.todo=.back c old :: r:=hs.todo.trans hd
    rw [show final p t a1 s1=final p t a1 (mstep p t a1 s1) from (final_iter 1 s1).symm]
    refine ih _ _ (by omega) (ho1.step hc) (ho2.step hc) ?_
    rw [mstep_back hf1 hd1,mstep_back hf2 hd]
    exact ⟨rfl,by simp only [];rw [hs.caps],hs.fin,hs.met⟩
   | .pair i k :: r,_ =>
    have hd1:s1.todo=.pair i k :: r:=hs.todo.trans hd
    have hj1:=ho1.jobs (.pair i k) (by rw [hd1];exact zzH)
    have hj2:=jobOk_le h12 hj1
    have hmk:=hs.met i k hj1
    cases hq2:s2.met.getD (bitOf t a2 i k) true with
    | true =>
     have hm2:=mstep_met (p:=p) (t:=t) (at_:=a2) hf2 hd hq2
     rcases hmk.2 hq2 with hq1 | hq1
     ·rw [show final p t a1 s1=final p t a1 (mstep p t a1 s1) from (final_iter 1 s1).symm]
      refine ih _ _ (by omega) (ho1.step hc) (ho2.step hc) ?_
      rw [mstep_met hf1 hd1 hq1,hm2]
      exact ⟨rfl,hs.caps,hs.fin,hs.met⟩
     ·obtain ⟨m,hb⟩:=fail_pair hF hc _ s1 i k r (zzF _) ho1 hf1 hd1 hq1
      rw [show final p t a1 s1=final p t a1 (iter p t a1 m s1) from (final_iter m s1).symm]
      refine ih _ _ (by omega) (ho1.iter_ hc m) (ho2.step hc) ?_
      rw [hm2]
      refine ⟨hb.todo,hb.caps.trans hs.caps,hb.fin.trans hf2.symm,fun i' k' hj=>?_⟩
      rw [show mP t a2 { s2 with todo:=r } i' k' ↔ mP t a2 s2 i' k' from Iff.rfl,←hs.met i' k' hj]
      exact ⟨fun h=>h.elim (hb.new i' k' hj) .inr,fun h=>h.elim (fun h=>.inl (hb.old i' k' h)) .inr⟩
    | false =>
     have hq1:s1.met.getD (bitOf t a1 i k) true=false:=by
      cases h:s1.met.getD (bitOf t a1 i k) true with
      | false=>rfl
      | true=>have:=hmk.1 (.inl h);unfold mP at this;rw [hq2] at this;cases this
     obtain ⟨x,hx⟩:∃ x,p.insts[i]?=some x:=⟨_,zzJ hj1.1⟩
     have e1:=mstep_pair (p:=p) (t:=t) (at_:=a1) hf1 hd1 hq1 hx
     have e2:=mstep_pair (p:=p) (t:=t) (at_:=a2) hf2 hd hq2 hx
     rw [eff_eq] at e1 e2
     simp only [] at e1 e2
     rw [show final p t a1 s1=final p t a1 (mstep p t a1 s1) from (final_iter 1 s1).symm]
     refine ih _ _ (by omega) (ho1.step hc) (ho2.step hc) ?_
     rw [e1,e2]
     refine ⟨by simp only [];rw [hs.caps],by simp only [];rw [hs.caps],by simp only [];rw [hs.fin],fun i' k' hj=>?_⟩
     rw [mP_set (s:=s1) rfl ho1.met hj1 hj,mP_set (s:=s2) rfl ho2.met hj2 (jobOk_le h12 hj),←hs.met i' k' hj]
     exact ⟨fun h=>h.elim (fun h=>h.elim (fun h=>.inl (.inl h)) .inr) (fun h=>.inl (.inr h)),fun h=>h.elim (fun h=>h.elim (fun h=>.inl (.inl h)) .inr) (fun h=>.inl (.inr h))⟩
def Shut (p:Prg) (t:List Int) (at_:Nat) (s:MS):Prop:=∀ i k x,JobOk p t at_ (.pair i k)→mP t at_ s i k→p.insts[i]?=some x→s.fin=none→x.op≠5∧∀ q∈nexts t x k,mP t at_ s q.1 q.2∨.pair q.1 q.2∈s.todo
theorem Shut.step {s:MS} (hc:checkB p=true) (ho:Ok p t at_ s) (h:Shut p t at_ s):Shut p t at_ (mstep p t at_ s):=by
 by_cases hh:halted s
 ·rw [halt_stay p t at_ hh];exact h
 unfold halted at hh
 simp only [not_or,ne_eq,Classical.not_not] at hh
 obtain ⟨hf,ht⟩:=hh
 match hd:s.todo,ht with
 | .back c old :: r,_ =>
  rw [mstep_back hf hd]
  intro i k x hj hm hx hfn
  obtain ⟨h5,hq⟩:=h i k x hj hm hx hf
  refine ⟨h5,fun q hqm=>(hq q hqm).imp id fun hm=>?_⟩
  rw [hd] at hm
  exact (zzN.1 hm).resolve_left (by simp)
 | .pair i0 k0 :: r,_ =>
  have hj0:=ho.jobs (.pair i0 k0) (by rw [hd];exact zzH)
  cases hq0:s.met.getD (bitOf t at_ i0 k0) true with
  | true =>
   rw [mstep_met hf hd hq0]
   intro i k x hj hm hx hfn
   obtain ⟨h5,hq⟩:=h i k x hj hm hx hf
   refine ⟨h5,fun q hqm=>(hq q hqm).elim .inl fun hm=>?_⟩
   rw [hd] at hm
   rcases zzN.1 hm with e | hm
   ·simp only [Job.pair.injEq] at e
    rw [e.1,e.2]
    exact .inl hq0
   ·exact .inr hm
  | false =>
   obtain ⟨x0,hx0⟩:∃ x,p.insts[i0]?=some x:=⟨_,zzJ hj0.1⟩
   have e0:=mstep_pair (p:=p) (t:=t) (at_:=at_) hf hd hq0 hx0
   rw [eff_eq] at e0
   simp only [] at e0
   rw [e0]
   intro i k x hj hm hx hfn
   simp only [] at hfn
   have h5:x0.op≠5:=fun e=>by rw [if_pos e] at hfn;cases hfn
   rcases (mP_set (s:=s) rfl ho.met hj0 hj).1 hm with hm | ⟨rfl,rfl⟩
   ·obtain ⟨h5',hq⟩:=h i k x hj hm hx hf
    refine ⟨h5',fun q hqm=>?_⟩
    have hle:JobOk p t at_ (.pair q.1 q.2)∨True:=.inr trivial
    rcases hq q hqm with hm2 | hm2
    ·refine .inl ?_
     unfold mP at hm2 ⊢
     simp only []
     by_cases e:bitOf t at_ i0 k0=bitOf t at_ q.1 q.2
     ·rw [e] at hq0;rw [hq0] at hm2;cases hm2
     ·rw [zzf,zzr e,←zzf];exact hm2
    ·rw [hd] at hm2
     rcases zzN.1 hm2 with e | hm2
     ·simp only [Job.pair.injEq] at e
      refine .inl ?_
      rw [e.1,e.2]
      exact (mP_set (s:=s) rfl ho.met hj0 hj0).2 (.inr ⟨rfl,rfl⟩)
     ·exact .inr (by simp only [zzM];exact .inr (.inr hm2))
   ·have:x=x0:=Option.some.inj (hx.symm.trans hx0)
    subst this
    refine ⟨h5,fun q hqm=>.inr ?_⟩
    simp only [zzM]
    exact .inl (zzp.2 ⟨q,hqm,rfl⟩)
theorem Shut.iter_ (hc:checkB p=true):∀ (n:Nat) {s:MS},Ok p t at_ s→Shut p t at_ s→Shut p t at_ (iter p t at_ n s)
 | 0,_,_,h=>h
 | n+1,_,ho,h=>Shut.iter_ hc n (ho.step hc) (h.step hc ho)
theorem nexts_ok {x:Ins} {k:Nat} (hx:mayB x p.insts.length p.caps=true) (hk:k≤t.length) {q:Nat × Nat} (h:q∈nexts t x k):q.1 < p.insts.length∧q.2≤t.length:=by
 unfold nexts at h
 by_cases h1:x.op=1
 ·obtain ⟨a,b⟩:=may_x hx (.inl h1)
  rw [if_pos h1] at h
  split at h
  ·rename_i hh
   simp at h;subst h;simp only [];omega
  ·simp at h
 rw [if_neg h1] at h
 by_cases h2:x.op=2
 ·obtain ⟨a,b⟩:=may_x hx (.inr (.inl h2))
  obtain ⟨a',b'⟩:=may_y hx h2
  rw [if_pos h2] at h
  simp at h
  rcases h with rfl | rfl <;> (simp only [];omega)
 rw [if_neg h2] at h
 by_cases h3:x.op=3
 ·obtain ⟨a,b⟩:=may_x hx (.inr (.inr (.inl h3)))
  rw [if_pos h3] at h
  simp at h;subst h;simp only [];omega
 rw [if_neg h3] at h
 by_cases h4:x.op=4
 ·obtain ⟨a,b⟩:=may_x hx (.inr (.inr (.inr (.inl h4))))
  rw [if_pos h4] at h
  split at h
  ·simp at h;subst h;simp only [];omega
  ·simp at h
 rw [if_neg h4] at h
 by_cases h7:x.op=7
 ·obtain ⟨a,b⟩:=may_x hx (.inr (.inr (.inr (.inr h7))))
  rw [if_pos h7] at h
  simp at h;subst h;simp only [];omega
 ·rw [if_neg h7] at h;simp at h
theorem shut_fails {s:MS} (hc:checkB p=true) (h:Shut p t at_ s) (hf:s.fin=none) (ht:s.todo=[]):Fails p t fun i k=>JobOk p t at_ (.pair i k)∧mP t at_ s i k:=by
 refine ⟨fun i k hh=>⟨hh.1.1,hh.1.2.2⟩,fun i k x hh hx=>?_⟩
 obtain ⟨h5,hq⟩:=h i k x hh.1 hh.2 hx hf
 refine ⟨h5,fun q hqm=>⟨?_,(hq q hqm).resolve_right (by rw [ht];simp)⟩⟩
 have h1:=nexts_ok (t:=t) (may_of hc hx) hh.1.2.2 hqm
 exact ⟨h1.1,zzU hh.1.2.1 (nexts_le hqm),h1.2⟩
end
section
variable (p:Prg) (t:List Int)
def oneAt (i:Nat):MS:=final p t i (begin_ p i (List.replicate (p.insts.length*places t i) false) 0)
variable {p t}
theorem rep_getD {n q:Nat} (h:q < n):(List.replicate n false).getD q true=false:=by
 rw [zzf,List.getElem?_replicate,if_pos h];rfl
theorem start_job (hc:checkB p=true) {a b:Nat} (hb:a≤b∧b≤t.length):JobOk p t a (.pair p.start.toNat b):=by
 unfold checkB headB at hc
 simp only [zzc,zzg] at hc
 have:=hc.1
 exact ⟨by omega,hb⟩
theorem fresh_ok (hc:checkB p=true) {b:Nat} (hb:b≤t.length):Ok p t b (begin_ p b (List.replicate (p.insts.length*places t b) false) 0) :=
 Ok.start hc hb ⟨zzF _,hb⟩ (by simp) (by simp)
theorem fresh_met {a b:Nat} {i k:Nat} (h:JobOk p t a (.pair i k)):¬mP t a (begin_ p b (List.replicate (p.insts.length*places t a) false) 0) i k:=by
 unfold mP begin_
 simp only []
 rw [rep_getD (bit_lt h)]
 simp
theorem begin_same (hc:checkB p=true) {a b:Nat} (hb:a≤b∧b≤t.length) {met:List Bool} {steps:Nat} (hm:met.length=p.insts.length*places t a) (hs:steps+met.count false≤met.length)
  (hF:Fails p t fun i k=>JobOk p t a (.pair i k)∧met.getD (bitOf t a i k) true=true) :
  (final p t a (begin_ p b met steps)).fin=(oneAt p t b).fin∧(final p t a (begin_ p b met steps)).caps=(oneAt p t b).caps:=by
 have ho1:=fresh_ok hc hb.2
 have ho2:=Ok.start hc (zzU hb.1 hb.2) hb hm hs
 have h:=sim_final hF hc hb.1 _ _ _ (zzF _) ho1 ho2 ⟨rfl,rfl,rfl,fun i k hj=>by
  constructor
  ·rintro (h | h)
   ·exact absurd h (fresh_met hj)
   ·exact h.2
  ·intro h
   exact .inr ⟨jobOk_le hb.1 hj,h⟩⟩
 exact ⟨h.fin.symm,h.caps.symm⟩
theorem begin_shut (hc:checkB p=true) {a b:Nat} (hb:a≤b∧b≤t.length) {met:List Bool} {steps:Nat} (hm:met.length=p.insts.length*places t a) (hs:steps+met.count false≤met.length)
  (hF:Fails p t fun i k=>JobOk p t a (.pair i k)∧met.getD (bitOf t a i k) true=true) (hf:(final p t a (begin_ p b met steps)).fin=none) :
  Fails p t fun i k=>JobOk p t a (.pair i k)∧(final p t a (begin_ p b met steps)).met.getD (bitOf t a i k) true=true:=by
 have ho2:=Ok.start hc (zzU hb.1 hb.2) hb hm hs
 have h0:Shut p t a (begin_ p b met steps):=fun i k x hj hmm hx _=>by
  obtain ⟨h5,hq⟩:=hF.next i k x ⟨hj,hmm⟩ hx
  exact ⟨h5,fun q hqm=>.inl (hq q hqm).2⟩
 have h1:Shut p t a (final p t a (begin_ p b met steps)):=h0.iter_ hc _ ho2
 exact shut_fails hc h1 hf ((final_halts _).resolve_left (fun h=>h hf))
theorem search_tells (hc:checkB p=true) {a:Nat}:∀ (n b:Nat) (met:List Bool) (steps:Nat),a≤b→b+n=t.length+1→met.length=p.insts.length*places t a→steps+met.count false≤met.length →
  Fails p t (fun i k=>JobOk p t a (.pair i k)∧met.getD (bitOf t a i k) true=true) →
  ((search p t a false n b met steps).1=none∧∀ i,b≤i→i≤t.length→(oneAt p t i).fin=none) ∨
  (∃ j w,(search p t a false n b met steps).1=some ((oneAt p t j).caps,w)∧(oneAt p t j).fin=some w∧b≤j∧j≤t.length∧∀ i,b≤i→i < j→(oneAt p t i).fin=none)
 | 0,b,met,steps,_,h,_,_,_=>.inl ⟨rfl,fun i h1 h2=>by omega⟩
 | n+1,b,met,steps,hab,hbn,hm,hs,hF=>by
  have hb:a≤b∧b≤t.length:=⟨hab,by omega⟩
  have h1:=begin_same hc hb hm hs hF
  have ho:=Ok.iter_ hc (meas (begin_ p b met steps)) (Ok.start hc (zzU hb.1 hb.2) hb hm hs)
  cases hf:(final p t a (begin_ p b met steps)).fin with
  | some w =>
   refine .inr ⟨b,w,?_,h1.1.symm.trans hf,zzF _,hb.2,fun i h2 h3=>by omega⟩
   rw [search]
   simp only [hf]
   rw [h1.2]
  | none =>
   have hF2:=begin_shut hc hb hm hs hF hf
   have hone:(oneAt p t b).fin=none:=h1.1.symm.trans hf
   have hrec:search p t a false (n+1) b met steps=search p t a false n (b+1) (final p t a (begin_ p b met steps)).met (final p t a (begin_ p b met steps)).steps:=by
    rw [search]
    simp only [hf]
    rfl
   rw [hrec]
   rcases search_tells hc n (b+1) _ _ (by omega) (by omega) ho.met ho.steps hF2 with ⟨h2,h3⟩ | ⟨j,w,h2,h3,h4,h5,h6⟩
   ·refine .inl ⟨h2,fun i hi1 hi2=>?_⟩
    by_cases e:i=b
    ·subst e;exact hone
    ·exact h3 i (by omega) hi2
   ·refine .inr ⟨j,w,h2,h3,by omega,h5,fun i hi1 hi2=>?_⟩
    by_cases e:i=b
    ·subst e;exact hone
    ·exact h6 i (by omega) hi2
theorem step_steps (a:Nat) (s:MS):s.steps≤(mstep p t a s).steps:=by
 unfold mstep
 split
 ·exact zzF _
 ·exact zzF _
 ·exact zzF _
 ·split
  ·exact zzF _
  ·split
   ·exact zzF _
   ·rw [eff_eq];exact Nat.le_succ _
theorem iter_steps (a:Nat):∀ (n:Nat) (s:MS),s.steps≤(iter p t a n s).steps
 | 0,s=>zzF _
 | n+1,s=>zzU (step_steps a s) (iter_steps a n _)
theorem search_steps (a:Nat) (anch:Bool):∀ (n b:Nat) (met:List Bool) (steps:Nat),steps≤(search p t a anch n b met steps).2
 | 0,b,met,steps=>zzF _
 | n+1,b,met,steps=>by
  have h1:steps≤(final p t a (begin_ p b met steps)).steps:=iter_steps a _ (begin_ p b met steps)
  rw [search]
  split
  ·exact h1
  ·split
   ·exact h1
   ·exact zzU h1 (search_steps a anch n (b+1) _ _)
theorem search_most (hc:checkB p=true) {a:Nat} (anch:Bool):∀ (n b:Nat) (met:List Bool) (steps:Nat),a≤b→b+n=t.length+1→met.length=p.insts.length*places t a→steps+met.count false≤met.length →
  (search p t a anch n b met steps).2≤p.insts.length*places t a
 | 0,b,met,steps,_,_,hm,hs=>by rw [search];simp only [];omega
 | n+1,b,met,steps,hab,hbn,hm,hs=>by
  have ho:=Ok.iter_ hc (meas (begin_ p b met steps)) (Ok.start hc (by omega) ⟨hab,by omega⟩ hm hs)
  have h1:(final p t a (begin_ p b met steps)).steps≤p.insts.length*places t a:=by
   have e1:=ho.steps
   have e2:=ho.met
   unfold final
   omega
  rw [search]
  split
  ·exact h1
  ·split
   ·exact h1
   ·exact search_most hc anch n (b+1) _ _ (by omega) (by omega) ho.met ho.steps
theorem begin_steps (hc:checkB p=true) {b:Nat} (hb:b≤t.length):1≤(oneAt p t b).steps:=by
 have hj:=start_job (t:=t) hc ⟨zzF b,hb⟩
 obtain ⟨x,hx⟩:∃ x,p.insts[p.start.toNat]?=some x:=⟨_,zzJ hj.1⟩
 have e:=mstep_pair (p:=p) (t:=t) (at_:=b) (s:=begin_ p b (List.replicate (p.insts.length*places t b) false) 0) rfl rfl (by unfold begin_;exact rep_getD (bit_lt hj)) hx
 rw [eff_eq] at e
 unfold oneAt
 rw [←final_iter 1]
 have h1:(iter p t b 1 (begin_ p b (List.replicate (p.insts.length*places t b) false) 0)).steps=1:=by
  show (mstep p t b _).steps=1
  rw [e]
  rfl
 have:=iter_steps (p:=p) (t:=t) b (meas (iter p t b 1 (begin_ p b (List.replicate (p.insts.length*places t b) false) 0))) (iter p t b 1 (begin_ p b (List.replicate (p.insts.length*places t b) false) 0))
 rw [h1] at this
 exact this
theorem search_one (a n:Nat):search p t a true (n+1) a (List.replicate (p.insts.length*places t a) false) 0=((oneAt p t a).fin.map fun w=>((oneAt p t a).caps,w),(oneAt p t a).steps):=by
 rw [search]
 show (match (oneAt p t a).fin with | some w=>(some ((oneAt p t a).caps,w),(oneAt p t a).steps) | none=>if true then (none,(oneAt p t a).steps) else _)=_
 cases (oneAt p t a).fin with
 | some w=>rfl
 | none=>rfl
theorem fresh_fails (hc:checkB p=true) (a:Nat):Fails p t fun i k=>JobOk p t a (.pair i k)∧(List.replicate (p.insts.length*places t a) false).getD (bitOf t a i k) true=true :=
 ⟨fun i k h=>⟨h.1.1,h.1.2.2⟩,fun i k x h _=>by have:=rep_getD (bit_lt h.1);rw [this] at h;exact absurd h.2 (by simp)⟩
theorem run_tells (hc:checkB p=true) {a:Nat} (ha:a≤t.length) :
  let r:=search p t a false (t.length+1 - a) a (List.replicate (p.insts.length*places t a) false) 0
  (1≤r.2∧r.2≤p.insts.length*places t a∧(oneAt p t a).steps≤r.2∧1≤(oneAt p t a).steps) ∧
  ((r.1=none∧∀ i,a≤i→i≤t.length→(oneAt p t i).fin=none)∨(∃ j w,r.1=some ((oneAt p t j).caps,w)∧(oneAt p t j).fin=some w∧a≤j∧j≤t.length∧∀ i,a≤i→i < j→(oneAt p t i).fin=none)):=by
 intro r
 have hl:(List.replicate (p.insts.length*places t a) false).length=p.insts.length*places t a:=by simp
 have hs:0+(List.replicate (p.insts.length*places t a) false).count false≤(List.replicate (p.insts.length*places t a) false).length:=by simp
 have h1:=begin_steps (t:=t) hc ha
 have h2:(oneAt p t a).steps≤r.2:=by
  obtain ⟨n,hn⟩:∃ n,t.length+1 - a=n+1:=⟨t.length - a,by omega⟩
  show _≤(search p t a false (t.length+1 - a) a (List.replicate (p.insts.length*places t a) false) 0).2
  rw [hn,search]
  show _≤(match (oneAt p t a).fin with | some w=>(some ((oneAt p t a).caps,w),(oneAt p t a).steps) | none=>if false=true then (none,(oneAt p t a).steps) else search p t a false n (a+1) (oneAt p t a).met (oneAt p t a).steps).2
  cases (oneAt p t a).fin with
  | some w=>exact zzF _
  | none=>exact search_steps a false n (a+1) _ _
 exact ⟨⟨zzU h1 h2,search_most hc false _ a _ 0 (zzF _) (by omega) hl hs,h2,h1⟩,search_tells hc _ a _ 0 (zzF _) (by omega) hl hs (fresh_fails hc a)⟩
end
end Go.Proofs.YtgkclnmmjedmkaaGreat.Mach
