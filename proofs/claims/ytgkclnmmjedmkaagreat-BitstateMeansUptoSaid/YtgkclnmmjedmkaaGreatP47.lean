/- sparse.Stack of bitstate's jobs: Push, Pop. -/
import Derived.Deep.RegionHeldLaw
import Derived.Deep.AppendLies
import Derived.Handy
import Derived.Laws.ResultCell
import Derived.Test.YtgkclnmmjedmkaaGreatP02
set_option maxRecDepth 100000
set_option maxHeartbeats 2000000
namespace Go.Proofs.YtgkclnmmjedmkaaGreat
open Go.RowKit Mach
def jobVals:Job→List Value
 | .pair i k=>[.int .i64 (i:Int),.int .i64 (k:Int),.int .i64 0,.int .i64 0]
 | .back c old=>[.int .i64 0,.int .i64 0,.int .i64 ((c:Int)+1),.int .i64 old]
theorem jobVals_length (j:Job):(jobVals j).length=4:=by cases j <;> rfl
def jobRow:List Job→List Value
 | []=>[]
 | j :: l=>jobRow l++jobVals j
theorem jobRow_length (l:List Job):(jobRow l).length=l.length*4:=by
 induction l with
 | nil=>rfl
 | cons j l ih=>rw [jobRow,zzG,ih,jobVals_length,zzO];omega
structure Stk (w:World) (base s:Nat) (V:Value) (l:List Job):Prop where
 blk:∃ m,Blk w s 79 [V,.int .i64 m]
 own:w.ownsRow base 82 4 V l.length (jobRow l)
section
variable {w w':World} {base s:Nat} {V:Value} {l:List Job}
theorem Stk.drewN (h:Stk w base s V l) (n:Nat):Stk (w.drewN n) base s V l:=⟨h.blk.imp fun _ h=>h.drewN n,own_drewN h.own n⟩
theorem Stk.below (h:Stk w base s V l) (hb:Below w.heap.size w w'):Stk w' base s V l:=⟨h.blk.imp fun _ g=>g.below hb g.lt,own_below h.own hb⟩
theorem Stk.kept {L:List Nat} (h:Stk w base s V l) (k:Kept w w' L) (h1:s ∉ L) (h2:∀ b,V.ownBlock=some b→b ∉ L):Stk w' base s V l:=⟨h.blk.imp fun _ g=>g.kept k h1,own_kept h.own k h2⟩
end
theorem info_job:(Tryz.prog.info? 82).map (fun i=>(i.zero,i.size,i.bytes))=some (some (.agg #[.int .i64 0,.int .i64 0,.int .i64 0,.int .i64 0]),4,32):=by kernel_rfl
theorem new_at (w:World) (t:TypeId) (cs:List Value):∀ j u,cs[j]?=some u→(w.alloc (.cells cs.toArray t)).cell? ((⟨w.heap.size,0,none⟩:Addr).add j)=some u:=by
 intro j u hj
 rw [add_lit,zzw]
 exact ((zyI w t cs).cell j).trans hj
theorem size_job:(Tryz.prog.info? 82).map (·.size)=some 4:=by kernel_rfl
theorem und_job:∃ d,Tryz.prog.underlying 82=some d∧isRow d=true:=⟨_,Tryz.underlying82,rfl⟩
theorem own_lt {w:World} {base:Nat} {e:TypeId} {size:Nat} {v:Value} {n:Nat} {xs:List Value} (h:w.ownsRow base e size v n xs) (b:Nat) (hb:v.ownBlock=some b):b < w.heap.size:=(h.lt b hb).2
theorem held_of {w:World} {s X:Nat} {t t':TypeId} {u v:Value} {a1 a2 a3 a4:Int} (h:Blk w s t [u,v]) (g:Blk w X t' [.int .i64 a1,.int .i64 a2,.int .i64 a3,.int .i64 a4]) :
  w.cell? ⟨s,0,none⟩=some u∧w.cell? ⟨X,0,none⟩=some (.int .i64 a1)∧w.cell? ⟨X,1,none⟩=some (.int .i64 a2)∧w.cell? ⟨X,2,none⟩=some (.int .i64 a3)∧w.cell? ⟨X,3,none⟩=some (.int .i64 a4) :=
 ⟨h.cell 0,g.cell 0,g.cell 1,g.cell 2,g.cell 3⟩
theorem push_any (base s:Nat) (V:Value) (l:List Job) (j:Job) (w:World) (a1 a2 a3 a4:Int) (hj:jobVals j=[.int .i64 a1,.int .i64 a2,.int .i64 a3,.int .i64 a4]) (h:Stk w base s V l) (hs:base≤s) (hn:l.length≤1000000000) :
  Calls Tryz.prog 35 #[.pointer (some ⟨s,0,none⟩),.agg #[.int .i64 a1,.int .i64 a2,.int .i64 a3,.int .i64 a4]] w fun e w'=>e=.returned (.tuple #[]) ∧
   ∃ V',Stk w' base s V' (j :: l)∧Kept w w' (s :: V.ownBlock.toList)∧(V'.ownBlock=V.ownBlock∨∃ k,w.heap.size≤k∧V'.ownBlock=some k):=by
 obtain ⟨⟨m,hb⟩,hown⟩:=h
 have hsne:some s≠V.ownBlock:=blk_apart hown hb (by decide)
 obtain ⟨A,c,rfl⟩:=own_shape hown
 have hlt:=hb.lt
 obtain ⟨i0,hi,hz0,hz1,hz2⟩:=info_parts info_job
 have hc0:w.cell? ⟨s,0,none⟩=some (.slice A l.length c):=hb.cell 0
 have hc1:w.cell? ⟨s,1,none⟩=some (.int .i64 m):=hb.cell 1
 have hf0:w.frozen? ⟨s,0,none⟩=false:=hb.frozen 0
 have hf1:w.frozen? ⟨s,1,none⟩=false:=hb.frozen 1
 go_enter Tryz.func35,Tryz.ntmps35
 go_wp2_with fail
 have hbx:Blk (w.alloc (.cells #[.int .i64 a1,.int .i64 a2,.int .i64 a3,.int .i64 a4] 82)) w.heap.size 82 [.int .i64 a1,.int .i64 a2,.int .i64 a3,.int .i64 a4]:=zyI w _ [.int .i64 a1,.int .i64 a2,.int .i64 a3,.int .i64 a4]
 have hb1:=hb.alloc (.cells #[.int .i64 a1,.int .i64 a2,.int .i64 a3,.int .i64 a4] 82)
 have ho1:=own_below hown ((zzb _ _).alloc (zzF _) (.cells #[.int .i64 a1,.int .i64 a2,.int .i64 a3,.int .i64 a4] 82))
 have hxne:some w.heap.size≠(Value.slice A l.length c).ownBlock:=fun h=>by have:=own_lt hown w.heap.size h.symm;omega
 have hk1:Kept w (w.alloc (.cells #[.int .i64 a1,.int .i64 a2,.int .i64 a3,.int .i64 a4] 82)) []:=Kept.alloc _
 generalize w.alloc (.cells #[.int .i64 a1,.int .i64 a2,.int .i64 a3,.int .i64 a4] 82)=w1 at *
 have s1:w1.cell? ⟨s,0,none⟩=some (.slice A l.length c):=hb1.cell 0
 have k1:w1.drew.cell? ⟨s,0,none⟩=some (.slice A l.length c)∧w1.drew.cell? ⟨w.heap.size,0,none⟩=some (.int .i64 a1)∧w1.drew.cell? ⟨w.heap.size,1,none⟩=some (.int .i64 a2)∧w1.drew.cell? ⟨w.heap.size,2,none⟩=some (.int .i64 a3)∧w1.drew.cell? ⟨w.heap.size,3,none⟩=some (.int .i64 a4) :=
  ⟨hb1.cell 0,hbx.cell 0,hbx.cell 1,hbx.cell 2,hbx.cell 3⟩
 have hb2:=hb1.alloc (.cells #[.int .i64 a1,.int .i64 a2,.int .i64 a3,.int .i64 a4] 82)
 have hbx2:=hbx.alloc (.cells #[.int .i64 a1,.int .i64 a2,.int .i64 a3,.int .i64 a4] 82)
 have k2:(w1.alloc (.cells #[.int .i64 a1,.int .i64 a2,.int .i64 a3,.int .i64 a4] 82)).drew.cell? ⟨s,0,none⟩=some (.slice A l.length c)∧(w1.alloc (.cells #[.int .i64 a1,.int .i64 a2,.int .i64 a3,.int .i64 a4] 82)).drew.cell? ⟨w.heap.size,0,none⟩=some (.int .i64 a1)∧(w1.alloc (.cells #[.int .i64 a1,.int .i64 a2,.int .i64 a3,.int .i64 a4] 82)).drew.cell? ⟨w.heap.size,1,none⟩=some (.int .i64 a2)∧(w1.alloc (.cells #[.int .i64 a1,.int .i64 a2,.int .i64 a3,.int .i64 a4] 82)).drew.cell? ⟨w.heap.size,2,none⟩=some (.int .i64 a3)∧(w1.alloc (.cells #[.int .i64 a1,.int .i64 a2,.int .i64 a3,.int .i64 a4] 82)).drew.cell? ⟨w.heap.size,3,none⟩=some (.int .i64 a4) :=
  ⟨hb2.cell 0,hbx2.cell 0,hbx2.cell 1,hbx2.cell 2,hbx2.cell 3⟩
 have ho2:=own_below ho1 ((zzb _ _).alloc (zzF _) (.cells #[.int .i64 a1,.int .i64 a2,.int .i64 a3,.int .i64 a4] 82))
 have hbs1:base≤(w1.alloc (.cells #[.int .i64 a1,.int .i64 a2,.int .i64 a3,.int .i64 a4] 82)).drew.heap.size:=by have:=hb2.lt;simp at this ⊢;omega
 obtain ⟨e0,e1,e2,e3,e4⟩:=held_of hb1 hbx
 obtain ⟨f0,f1,f2,f3,f4⟩:=held_of hb2 hbx2
 clear k1 k2 s1
 go_region_law (first
  | (refine step_append_lies _ rfl (.tmp 8) (.tmp 10) 77 rfl base 82 i0 (.agg #[.int .i64 0,.int .i64 0,.int .i64 0,.int .i64 0]) 4 32 Tryz.underlying77 hi hz0 hz1 hz2 rfl (by decide) (.slice A l.length c) l.length (jobRow l) rfl ho2.drew ⟨w1.heap.size,0,none⟩ 1 1 [.int .i64 a1,.int .i64 a2,.int .i64 a3,.int .i64 a4] rfl rfl (new_at w1 _ [.int .i64 a1,.int .i64 a2,.int .i64 a3,.int .i64 a4]) (by simp [Value.oneCell']) (by decide) (by unfold maxLen;omega) (by omega) hbs1 _ rfl ?_;intro g cap2 w2 hou2 hg2 hat2 hlt2;have hb3:=hb2.drew.grown hg2 hsne;have hbx3:=hbx2.drew.grown hg2 hxne;have q1:=hb3.cell 0;have q2:=hb3.frozen 0;simp only [zzR] at q1))
 all_goals
  have hb4:=hb3.set_ 0 (.slice (some ⟨g,0,none⟩) (l.length+1) cap2)
  simp only [zzD] at hb4
  have hgs:∀ b,(Value.slice (some ⟨g,0,none⟩) (l.length+1) cap2).ownBlock=some b→b ∉ [s]:=fun b hb hm=>by
   have:=blk_apart hou2 hb3 (by decide)
   rw [zzE] at hm
   exact this (by rw [hb,hm])
  have hou4:=own_kept hou2 (zyG (w:=w2) ⟨s,0,none⟩ (.slice (some ⟨g,0,none⟩) (l.length+1) cap2)) hgs
  have hk4:Kept w (w2.setCell ⟨s,0,none⟩ (.slice (some ⟨g,0,none⟩) (l.length+1) cap2)) (s :: (Value.slice A l.length c).ownBlock.toList) :=
   ((hk1.trans ((Kept.alloc (L:=[]) (.cells #[.int .i64 a1,.int .i64 a2,.int .i64 a3,.int .i64 a4] 82)).trans ((Kept.drew (L:=[])).trans (Kept.of_grown' hg2)))).trans (zyG _ _)).more (by intro k hk;simp at hk ⊢;rcases hk with h | h;exact .inl (.inr h);exact .inl (.inl h))
  generalize w2.setCell ⟨s,0,none⟩ (.slice (some ⟨g,0,none⟩) (l.length+1) cap2)=w3 at *
  have r0:w3.cell? ⟨s,0,none⟩=some (.slice (some ⟨g,0,none⟩) (l.length+1) cap2):=hb4.cell 0
  have r1:w3.cell? ⟨s,1,none⟩=some (.int .i64 m):=hb4.cell 1
  have r2:w3.frozen? ⟨s,1,none⟩=false:=hb4.frozen 1
  clear q1 q2 e0 e1 e2 e3 e4 f0 f1 f2 f3 f4 hc0 hc1 hf0 hf1
  go_wp2_with fail
  go_region
  all_goals
   go_end0
   have hb5:=fun u=>(hb4.set_ 1 u).drew
   simp only [zzC,zzD] at hb5
   have hk5:=fun u=>(hk4.trans (zyG (w:=w3) ⟨s,1,none⟩ u)).trans (Kept.drew (L:=[]))
   refine ⟨rfl,_,⟨⟨_,hb5 _⟩,?_⟩,(hk5 _).more (by intro k hk;simp at hk ⊢;grind),?_⟩
   ·have ho5:=fun u=>own_kept hou4 ((zyG (w:=w3) ⟨s,1,none⟩ u).trans (Kept.drew (L:=[]))) (fun b h=>by rw [zzY];exact hgs b h)
    rw [jobRow,hj]
    exact ho5 _
   ·rcases hat2 with h | h
    ·exact .inl h.symm
    ·exact .inr ⟨g,by rw [h];have:=hk1.size;simp;omega,rfl⟩
theorem pop_empty (base s:Nat) (V:Value) (w:World) (h:Stk w base s V []) :
  Calls Tryz.prog 36 #[.pointer (some ⟨s,0,none⟩)] w fun e w'=>e=.returned (.tuple #[.agg #[.int .i64 0,.int .i64 0,.int .i64 0,.int .i64 0],.bool false])∧Below w.heap.size w w':=by
 obtain ⟨⟨m,hb⟩,hown⟩:=h
 obtain ⟨A,c,rfl⟩:=own_shape hown
 have hlt:=hb.lt
 have hc0:w.cell? ⟨s,0,none⟩=some (.slice A 0 c):=hb.cell 0
 clear hb hown
 go_enter Tryz.func36,Tryz.ntmps36
 go_wp2_with fail
 obtain ⟨d,hu,hd⟩:=und_job
 have z0:Blk ((w.alloc (.cells #[.int .i64 0,.int .i64 0,.int .i64 0,.int .i64 0] 82)).alloc (.cells #[.int .i64 0,.int .i64 0,.int .i64 0,.int .i64 0] 82)) w.heap.size 82 [.int .i64 0,.int .i64 0,.int .i64 0,.int .i64 0]:=(zyI w _ [.int .i64 0,.int .i64 0,.int .i64 0,.int .i64 0]).alloc _
 (try simp only [Exit.inBlock,Exit.then])
 refine zzm (results_cell_tmp_row rfl _ _ w.heap.size _ #[.int .i64 0,.int .i64 0,.int .i64 0,.int .i64 0] d rfl z0 hu hd size_job) rfl ?_
 exact ⟨rfl,((zzb _ _).alloc (zzF _) _).alloc (by simp) _⟩
theorem pop_any (base s:Nat) (V:Value) (l:List Job) (j:Job) (w:World) (a1 a2 a3 a4:Int) (hj:jobVals j=[.int .i64 a1,.int .i64 a2,.int .i64 a3,.int .i64 a4]) (h:Stk w base s V (j :: l)) (hn:l.length≤1000000000) :
  Calls Tryz.prog 36 #[.pointer (some ⟨s,0,none⟩)] w fun e w'=>e=.returned (.tuple #[.agg #[.int .i64 a1,.int .i64 a2,.int .i64 a3,.int .i64 a4],.bool true]) ∧
   ∃ V',Stk w' base s V' l∧Kept w w' (s :: V.ownBlock.toList)∧V'.ownBlock=V.ownBlock:=by
 obtain ⟨⟨m,hb⟩,hown⟩:=h
 have hsne:some s≠V.ownBlock:=blk_apart hown hb (by decide)
 obtain ⟨g,c,cur,rfl,hbg,hh,hnc,hcm,hcs,ht⟩:∃ g c cur,V=.slice (some ⟨g,0,none⟩) (l.length+1) c∧base≤g∧w.heap[g]?=some (.cells cur 82 (0,0))∧l.length+1≤c∧c≤9223372036854775807∧cur.size=c*4∧cur.toList.take ((l.length+1)*4)=jobRow (j :: l):=by
  rcases hown.2 with ⟨_,h0⟩ | ⟨g,c,cur,hv,h1,h2,h3,h4,h5,h6⟩
  ·simp at h0
  ·exact ⟨g,c,cur,hv,h1,h2,h3,h4,h5,h6⟩
 have hgs:g≠s:=fun e=>hsne (by rw [e];rfl)
 have hG:Blk w g 82 cur.toList:=hh
 have hcell:∀ q u,[Value.int .i64 a1,.int .i64 a2,.int .i64 a3,.int .i64 a4][q]?=some u→w.cell? ⟨g,l.length*4+q,none⟩=some u:=fun q u hq=>by
  rw [hG.cell]
  have hq4:q < 4:=by
   rcases Nat.lt_or_ge q 4 with h | h
   ·exact h
   ·rw [List.getElem?_eq_none (by simpa using h)] at hq;cases hq
  have e1:(cur.toList.take ((l.length+1)*4))[l.length*4+q]?=cur.toList[l.length*4+q]?:=List.getElem?_take_of_lt (by omega)
  rw [←e1,ht,jobRow,zzz (by rw [jobRow_length];omega),jobRow_length,hj,Nat.add_sub_cancel_left]
  exact hq
 have c0:=hcell 0 _ rfl
 have c1:=hcell 1 _ rfl
 have c2:=hcell 2 _ rfl
 have c3:=hcell 3 _ rfl
 have d0:=hG.frozen (l.length*4)
 have d1:=hG.frozen (l.length*4+1)
 have d2:=hG.frozen (l.length*4+2)
 have d3:=hG.frozen (l.length*4+3)
 have hc0:w.cell? ⟨s,0,none⟩=some (.slice (some ⟨g,0,none⟩) (l.length+1) c):=hb.cell 0
 have hf0:w.frozen? ⟨s,0,none⟩=false:=hb.frozen 0
 have hlt:=hb.lt
 have hltg:=hG.lt
 rw [Nat.add_zero] at c0
 go_enter Tryz.func36,Tryz.ntmps36
 go_wp2_with fail
 have n1:(w.alloc (.cells #[.int .i64 0,.int .i64 0,.int .i64 0,.int .i64 0] 82)).heap.size=w.heap.size+1:=by simp
 have n2:((w.alloc (.cells #[.int .i64 0,.int .i64 0,.int .i64 0,.int .i64 0] 82)).alloc (.cells #[.int .i64 0,.int .i64 0,.int .i64 0,.int .i64 0] 82)).heap.size=w.heap.size+1+1:=by simp
 have z0:Blk (((w.alloc (.cells #[.int .i64 0,.int .i64 0,.int .i64 0,.int .i64 0] 82)).alloc (.cells #[.int .i64 0,.int .i64 0,.int .i64 0,.int .i64 0] 82)).alloc (.cells #[.int .i64 a1,.int .i64 a2,.int .i64 a3,.int .i64 a4] 82)) w.heap.size 82 [.int .i64 0,.int .i64 0,.int .i64 0,.int .i64 0]:=((zyI w _ [.int .i64 0,.int .i64 0,.int .i64 0,.int .i64 0]).alloc _).alloc _
 have z1:Blk (((w.alloc (.cells #[.int .i64 0,.int .i64 0,.int .i64 0,.int .i64 0] 82)).alloc (.cells #[.int .i64 0,.int .i64 0,.int .i64 0,.int .i64 0] 82)).alloc (.cells #[.int .i64 a1,.int .i64 a2,.int .i64 a3,.int .i64 a4] 82)) (w.heap.size+1) 82 [.int .i64 0,.int .i64 0,.int .i64 0,.int .i64 0]:=by have:=(zyI (w.alloc (.cells #[.int .i64 0,.int .i64 0,.int .i64 0,.int .i64 0] 82)) 82 [.int .i64 0,.int .i64 0,.int .i64 0,.int .i64 0]).alloc (.cells #[.int .i64 a1,.int .i64 a2,.int .i64 a3,.int .i64 a4] 82);rw [n1] at this;exact this
 have z2:Blk (((w.alloc (.cells #[.int .i64 0,.int .i64 0,.int .i64 0,.int .i64 0] 82)).alloc (.cells #[.int .i64 0,.int .i64 0,.int .i64 0,.int .i64 0] 82)).alloc (.cells #[.int .i64 a1,.int .i64 a2,.int .i64 a3,.int .i64 a4] 82)) (w.heap.size+1+1) 82 [.int .i64 a1,.int .i64 a2,.int .i64 a3,.int .i64 a4]:=by have:=zyI ((w.alloc (.cells #[.int .i64 0,.int .i64 0,.int .i64 0,.int .i64 0] 82)).alloc (.cells #[.int .i64 0,.int .i64 0,.int .i64 0,.int .i64 0] 82)) 82 [.int .i64 a1,.int .i64 a2,.int .i64 a3,.int .i64 a4];rw [n2] at this;exact this
 have zs:Blk (((w.alloc (.cells #[.int .i64 0,.int .i64 0,.int .i64 0,.int .i64 0] 82)).alloc (.cells #[.int .i64 0,.int .i64 0,.int .i64 0,.int .i64 0] 82)).alloc (.cells #[.int .i64 a1,.int .i64 a2,.int .i64 a3,.int .i64 a4] 82)) s 79 [.slice (some ⟨g,0,none⟩) (l.length+1) c,.int .i64 m]:=((hb.alloc _).alloc _).alloc _
 have zg:Blk (((w.alloc (.cells #[.int .i64 0,.int .i64 0,.int .i64 0,.int .i64 0] 82)).alloc (.cells #[.int .i64 0,.int .i64 0,.int .i64 0,.int .i64 0] 82)).alloc (.cells #[.int .i64 a1,.int .i64 a2,.int .i64 a3,.int .i64 a4] 82)) g 82 cur.toList:=((hG.alloc _).alloc _).alloc _
 have zk:Kept w (((w.alloc (.cells #[.int .i64 0,.int .i64 0,.int .i64 0,.int .i64 0] 82)).alloc (.cells #[.int .i64 0,.int .i64 0,.int .i64 0,.int .i64 0] 82)).alloc (.cells #[.int .i64 a1,.int .i64 a2,.int .i64 a3,.int .i64 a4] 82)) []:=((Kept.alloc (L:=[]) _).trans ((Kept.alloc (L:=[]) _).trans (Kept.alloc (L:=[]) _)))
 have k0:=(zg.cell (l.length*4)).trans ((hG.cell (l.length*4)).symm.trans c0)
 have k1:=(zg.cell (l.length*4+1)).trans ((hG.cell (l.length*4+1)).symm.trans c1)
 have k2:=(zg.cell (l.length*4+2)).trans ((hG.cell (l.length*4+2)).symm.trans c2)
 have k3:=(zg.cell (l.length*4+3)).trans ((hG.cell (l.length*4+3)).symm.trans c3)
 clear n1 n2 c0 c1 c2 c3 d0 d1 d2 d3 hc0 hf0
 generalize ((w.alloc (.cells #[.int .i64 0,.int .i64 0,.int .i64 0,.int .i64 0] 82)).alloc (.cells #[.int .i64 0,.int .i64 0,.int .i64 0,.int .i64 0] 82)).alloc (.cells #[.int .i64 a1,.int .i64 a2,.int .i64 a3,.int .i64 a4] 82)=w3 at *
 have d0:=zg.frozen (l.length*4)
 have d1:=zg.frozen (l.length*4+1)
 have d2:=zg.frozen (l.length*4+2)
 have d3:=zg.frozen (l.length*4+3)
 have hc0:w3.cell? ⟨s,0,none⟩=some (.slice (some ⟨g,0,none⟩) (l.length+1) c):=zs.cell 0
 have y0:w3.cell? ⟨w.heap.size+1,0,none⟩=some (.int .i64 0):=z1.cell 0
 have y1:w3.cell? ⟨w.heap.size+1,1,none⟩=some (.int .i64 0):=z1.cell 1
 have y2:w3.cell? ⟨w.heap.size+1,2,none⟩=some (.int .i64 0):=z1.cell 2
 have y3:w3.cell? ⟨w.heap.size+1,3,none⟩=some (.int .i64 0):=z1.cell 3
 go_region
 have g1:w.heap.size≠g:=by omega
 have g2:w.heap.size+1+1≠g:=by omega
 have q0:=(((z0.far (p:=⟨g,l.length*4,none⟩) g1 (.int .i64 0)).far (p:=⟨g,l.length*4+1,none⟩) g1 (.int .i64 0)).far (p:=⟨g,l.length*4+2,none⟩) g1 (.int .i64 0)).far (p:=⟨g,l.length*4+3,none⟩) g1 (.int .i64 0)
 have q2:=(((z2.far (p:=⟨g,l.length*4,none⟩) g2 (.int .i64 0)).far (p:=⟨g,l.length*4+1,none⟩) g2 (.int .i64 0)).far (p:=⟨g,l.length*4+2,none⟩) g2 (.int .i64 0)).far (p:=⟨g,l.length*4+3,none⟩) g2 (.int .i64 0)
 have qs:=(((zs.far (p:=⟨g,l.length*4,none⟩) (Ne.symm hgs) (.int .i64 0)).far (p:=⟨g,l.length*4+1,none⟩) (Ne.symm hgs) (.int .i64 0)).far (p:=⟨g,l.length*4+2,none⟩) (Ne.symm hgs) (.int .i64 0)).far (p:=⟨g,l.length*4+3,none⟩) (Ne.symm hgs) (.int .i64 0)
 have qg:=(((zg.set_ (l.length*4) (.int .i64 0)).set_ (l.length*4+1) (.int .i64 0)).set_ (l.length*4+2) (.int .i64 0)).set_ (l.length*4+3) (.int .i64 0)
 have qk:Kept w ((((w3.setCell ⟨g,l.length*4,none⟩ (.int .i64 0)).setCell ⟨g,l.length*4+1,none⟩ (.int .i64 0)).setCell ⟨g,l.length*4+2,none⟩ (.int .i64 0)).setCell ⟨g,l.length*4+3,none⟩ (.int .i64 0)) [g] :=
  ((((zk.trans (zyG (w:=w3) ⟨g,l.length*4,none⟩ (.int .i64 0))).trans (zyG ⟨g,l.length*4+1,none⟩ (.int .i64 0))).trans (zyG ⟨g,l.length*4+2,none⟩ (.int .i64 0))).trans (zyG ⟨g,l.length*4+3,none⟩ (.int .i64 0))).more (by intro k hk;simp at hk ⊢;omega)
 clear z0 z1 z2 zs zg zk k0 k1 k2 k3 d0 d1 d2 d3 hc0 y0 y1 y2 y3
 generalize (((w3.setCell ⟨g,l.length*4,none⟩ (.int .i64 0)).setCell ⟨g,l.length*4+1,none⟩ (.int .i64 0)).setCell ⟨g,l.length*4+2,none⟩ (.int .i64 0)).setCell ⟨g,l.length*4+3,none⟩ (.int .i64 0)=w4 at *
 have e0:w4.cell? ⟨s,0,none⟩=some (.slice (some ⟨g,0,none⟩) (l.length+1) c):=qs.cell 0
 have e1:w4.frozen? ⟨s,0,none⟩=false:=qs.frozen 0
 have b0:=fun x=>q0.frozen x
 have x0:w4.cell? ⟨w.heap.size,0,none⟩=some (.int .i64 0):=q0.cell 0
 have x1:w4.cell? ⟨w.heap.size,1,none⟩=some (.int .i64 0):=q0.cell 1
 have x2:w4.cell? ⟨w.heap.size,2,none⟩=some (.int .i64 0):=q0.cell 2
 have x3:w4.cell? ⟨w.heap.size,3,none⟩=some (.int .i64 0):=q0.cell 3
 have y0:w4.cell? ⟨w.heap.size+1+1,0,none⟩=some (.int .i64 a1):=q2.cell 0
 have y1:w4.cell? ⟨w.heap.size+1+1,1,none⟩=some (.int .i64 a2):=q2.cell 1
 have y2:w4.cell? ⟨w.heap.size+1+1,2,none⟩=some (.int .i64 a3):=q2.cell 2
 have y3:w4.cell? ⟨w.heap.size+1+1,3,none⟩=some (.int .i64 a4):=q2.cell 3
 go_wp2_with fail
 have j1:w.heap.size≠s:=by omega
 have u0:=((((((q0.far (p:=⟨s,0,none⟩) j1 (.slice (some ⟨g,0,none⟩) l.length c)).set_ 0 (.int .i64 a1)).set_ 1 (.int .i64 a2)).set_ 2 (.int .i64 a3)).set_ 3 (.int .i64 a4))).drew
 have us:=((((((qs.set_ 0 (.slice (some ⟨g,0,none⟩) l.length c)).far (p:=⟨w.heap.size,0,none⟩) (Ne.symm j1) (.int .i64 a1)).far (p:=⟨w.heap.size,1,none⟩) (Ne.symm j1) (.int .i64 a2)).far (p:=⟨w.heap.size,2,none⟩) (Ne.symm j1) (.int .i64 a3)).far (p:=⟨w.heap.size,3,none⟩) (Ne.symm j1) (.int .i64 a4))).drew
 have ug:=((((((qg.far (p:=⟨s,0,none⟩) hgs (.slice (some ⟨g,0,none⟩) l.length c)).far (p:=⟨w.heap.size,0,none⟩) (Ne.symm g1) (.int .i64 a1)).far (p:=⟨w.heap.size,1,none⟩) (Ne.symm g1) (.int .i64 a2)).far (p:=⟨w.heap.size,2,none⟩) (Ne.symm g1) (.int .i64 a3)).far (p:=⟨w.heap.size,3,none⟩) (Ne.symm g1) (.int .i64 a4))).drew
 have uk:Kept w (((((w4.setCell ⟨s,0,none⟩ (.slice (some ⟨g,0,none⟩) l.length c)).setCell ⟨w.heap.size,0,none⟩ (.int .i64 a1)).setCell ⟨w.heap.size,1,none⟩ (.int .i64 a2)).setCell ⟨w.heap.size,2,none⟩ (.int .i64 a3)).setCell ⟨w.heap.size,3,none⟩ (.int .i64 a4)).drew [s,g] :=
  ((((((qk.trans (zyG (w:=w4) ⟨s,0,none⟩ (.slice (some ⟨g,0,none⟩) l.length c))).trans (zyG ⟨w.heap.size,0,none⟩ (.int .i64 a1))).trans (zyG ⟨w.heap.size,1,none⟩ (.int .i64 a2))).trans (zyG ⟨w.heap.size,2,none⟩ (.int .i64 a3))).trans (zyG ⟨w.heap.size,3,none⟩ (.int .i64 a4))).trans (Kept.drew (L:=[]))).more (by intro k hk;simp at hk ⊢;omega)
 simp only [zzD,zzC] at u0 us
 clear q0 q2 qs qg qk e0 e1 b0 x0 x1 x2 x3 y0 y1 y2 y3
 generalize (((((w4.setCell ⟨s,0,none⟩ (.slice (some ⟨g,0,none⟩) l.length c)).setCell ⟨w.heap.size,0,none⟩ (.int .i64 a1)).setCell ⟨w.heap.size,1,none⟩ (.int .i64 a2)).setCell ⟨w.heap.size,2,none⟩ (.int .i64 a3)).setCell ⟨w.heap.size,3,none⟩ (.int .i64 a4)).drew=w5 at *
 obtain ⟨d,hu,hd⟩:=und_job
 (try simp only [Exit.inBlock,Exit.then])
 refine zzm (results_cell_tmp_row rfl _ _ w.heap.size _ #[.int .i64 a1,.int .i64 a2,.int .i64 a3,.int .i64 a4] d rfl u0 hu hd size_job) rfl ?_
 refine ⟨rfl,.slice (some ⟨g,0,none⟩) l.length c,⟨⟨_,us⟩,⟨jobRow_length l,.inr ⟨g,c,_,rfl,hbg,ug,by omega,hcm,?_,?_⟩⟩⟩,uk.more (by intro k hk;simp [Value.ownBlock] at hk ⊢;omega),rfl⟩
 ·simp [hcs]
 ·rw [List.take_set_of_le (by omega),List.take_set_of_le (by omega),List.take_set_of_le (by omega),List.take_set_of_le (by omega)]
  have e1:cur.toList.take (l.length*4)=(cur.toList.take ((l.length+1)*4)).take (l.length*4):=by rw [List.take_take,Nat.min_eq_left (by omega)]
  rw [e1,ht,jobRow,←jobRow_length l]
  exact List.take_left
end Go.Proofs.YtgkclnmmjedmkaaGreat
