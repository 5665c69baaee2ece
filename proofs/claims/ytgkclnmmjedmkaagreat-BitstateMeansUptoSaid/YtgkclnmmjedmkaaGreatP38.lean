/- simplify: a joined row's form. -/
import Derived.StillTailTactics
import Derived.Test.YtgkclnmmjedmkaaGreatP30
set_option maxRecDepth 100000
set_option maxHeartbeats 1000000
namespace Go.Proofs.YtgkclnmmjedmkaaGreat
open Go.RowKit Tr
theorem jform_any (jb:Nat) (j:Jn) (w:World) (hj:Blk w jb 132 (jvals j)) (hJ:JB j) :
  Calls Tryz.prog 67 #[.pointer (some ⟨jb,0,none⟩)] w fun e w'=>e=.returned (fv (jform j))∧Below w.heap.size w w':=by
 obtain ⟨a1,a2,a3,a4,a5,a6⟩:=hJ
 obtain ⟨js,jd,jn,⟨ok,os,od,on⟩⟩:=j
 simp only [] at a1 a2 a3 a4 a5 a6
 simp only [jvals] at hj
 have hlt:=hj.lt
 have c0:w.cell? ⟨jb,0,none⟩=some (.int .i64 js):=hj.cell 0
 have c1:w.cell? ⟨jb,1,none⟩=some (.int .i64 jd):=hj.cell 1
 have c2:w.cell? ⟨jb,2,none⟩=some (.int .i64 jn):=hj.cell 2
 have c3:w.cell? ⟨jb,3,none⟩=some (.int .i64 ok):=hj.cell 3
 have c4:w.cell? ⟨jb,4,none⟩=some (.int .i64 os):=hj.cell 4
 have c5:w.cell? ⟨jb,5,none⟩=some (.int .i64 od):=hj.cell 5
 have c6:w.cell? ⟨jb,6,none⟩=some (.int .i64 on):=hj.cell 6
 have hR:=zyI w 93 [.int .i64 0,.int .i64 0,.int .i64 0,.int .i64 0]
 have h0:Below w.heap.size w (w.alloc (.cells #[.int .i64 0,.int .i64 0,.int .i64 0,.int .i64 0] 93)):=(zzb _ _).alloc (zzF _) _
 have HR:=zzA hR
 have H0:=zzA h0
 have HJ1:=zzA (hj.alloc (.cells #[.int .i64 0,.int .i64 0,.int .i64 0,.int .i64 0] 93))
 obtain ⟨g,hg⟩:∃ g,g=boundF ⟨4,js+1,jd+1,jn⟩:=⟨_,rfl⟩
 have hB2:=fun u=>zzA (bounded_any ⟨4,js+1,jd+1,jn⟩ u)
 rw [←hg] at hB2
 have HG:=zzA hg
 clear hj hR h0 hg
 simp only [fv,fvals] at hB2 ⊢
 by_cases hz:jn=0
 ·subst hz
  go_enter Tryz.func67,Tryz.ntmps67
  go_wp2_with fail
  refine zzm (form_ret rfl _ _ w.heap.size _ _ _ _ rfl (zyI w _ [_,_,_,_])) rfl ?_
  exact ⟨rfl,(zzb _ _).alloc (zzF _) _⟩
 ·by_cases h1:jn=1
  ·subst h1
   go_enter Tryz.func67,Tryz.ntmps67
   go_wp2_with fail
   refine zzm (form_ret rfl _ _ w.heap.size _ _ _ _ rfl (zyI w _ [_,_,_,_])) rfl ?_
   exact ⟨rfl,(zzb _ _).alloc (zzF _) _⟩
  ·have HZ:=zzA hz
   have HZ1:=zzA h1
   have h0b:(jn==0)=false:=by simpa using hz
   have h1b:(jn==1)=false:=by simpa using h1
   go_enter Tryz.func67,Tryz.ntmps67
   go_wp2_with fail
   clear c0 c1 c2 c3 c4 c5 c6
   generalize w.alloc (.cells #[.int .i64 0,.int .i64 0,.int .i64 0,.int .i64 0] 93)=w1 at *
   have c0:w1.drew.cell? ⟨jb,0,none⟩=some (.int .i64 js):=HJ1.out.cell 0
   have c1:w1.drew.cell? ⟨jb,1,none⟩=some (.int .i64 jd):=HJ1.out.cell 1
   have c2:w1.drew.cell? ⟨jb,2,none⟩=some (.int .i64 jn):=HJ1.out.cell 2
   refine wp_region_still_tail 15 (by kernel_rfl) (by kernel_rfl) ?_
   simp only [List.take_succ_cons,List.take_zero,List.drop_succ_cons,List.drop_zero]
   change wpStill _ _ w1.drew _ _ _
   repeat still_step
   refine wpStill_nil ?_
   change wpList _ _ _ _ _ w1.drew
   go_wp2_with (go_at_call 68;refine (hB2 _).out.mono ?_;rintro e w2 ⟨rfl,hb2⟩;have hR2:=HR.out.drew.below hb2 HR.out.lt;have HR2:=zzA hR2;have HB2:=zzA ((bdrewN H0.out 1).trans (hb2.mono H0.out.size));have q0:w2.cell? ⟨w.heap.size,0,none⟩=some (.int .i64 0):=hR2.cell 0;have q1:w2.cell? ⟨w.heap.size,1,none⟩=some (.int .i64 0):=hR2.cell 1;have q2:w2.cell? ⟨w.heap.size,2,none⟩=some (.int .i64 0):=hR2.cell 2;have q3:w2.cell? ⟨w.heap.size,3,none⟩=some (.int .i64 0):=hR2.cell 3;have s0:=hR2.frozen 0;have s1:=hR2.frozen 1;have s2:=hR2.frozen 2;have s3:=hR2.frozen 3;have s4:=hR2.lt;clear hb2 hR2;simp only [])
   refine zzm (form_ret rfl _ _ w.heap.size (.int .i64 g.kind) (.int .i64 g.size) (.int .i64 g.deep) (.int .i64 g.subs) rfl ((((HR2.out.set_ 0 (.int .i64 g.kind)).set_ 1 (.int .i64 g.size)).set_ 2 (.int .i64 g.deep)).set_ 3 (.int .i64 g.subs))) rfl ?_
   have hjf:jform ⟨js,jd,jn,⟨ok,os,od,on⟩⟩=g:=by unfold jform;rw [if_neg HZ.out,if_neg HZ1.out,HG.out]
   refine ⟨by rw [hjf],zyH HB2.out ((((zyG ⟨w.heap.size,0,none⟩ _).trans (zyG ⟨w.heap.size,1,none⟩ _)).trans (zyG ⟨w.heap.size,2,none⟩ _)).trans (zyG ⟨w.heap.size,3,none⟩ _)) ?_ HB2.out.size⟩
   intro b hb;simp at hb;omega
theorem times_start (w:World) (y:Tr.Form) {W:World} (hW:W=(((w.alloc (.cells #[.int .i64 y.kind,.int .i64 y.size,.int .i64 y.deep,.int .i64 y.subs] 93)).alloc (.cells #[.int .i64 0,.int .i64 0,.int .i64 0,.int .i64 0] 93)).alloc (.cells #[.int .i64 0,.int .i64 0,.int .i64 0,.int .i64 0,.int .i64 0,.int .i64 0,.int .i64 0] 132))) :
  Below w.heap.size w W∧Blk W w.heap.size 93 [.int .i64 y.kind,.int .i64 y.size,.int .i64 y.deep,.int .i64 y.subs]∧Blk W (w.heap.size+1) 93 [.int .i64 0,.int .i64 0,.int .i64 0,.int .i64 0]∧Blk W (w.heap.size+1+1) 132 [.int .i64 0,.int .i64 0,.int .i64 0,.int .i64 0,.int .i64 0,.int .i64 0,.int .i64 0]:=by
 have e1:(w.alloc (.cells #[.int .i64 y.kind,.int .i64 y.size,.int .i64 y.deep,.int .i64 y.subs] 93)).heap.size=w.heap.size+1:=by simp
 have e2:((w.alloc (.cells #[.int .i64 y.kind,.int .i64 y.size,.int .i64 y.deep,.int .i64 y.subs] 93)).alloc (.cells #[.int .i64 0,.int .i64 0,.int .i64 0,.int .i64 0] 93)).heap.size=w.heap.size+1+1:=by simp
 refine hW ▸ ⟨(two_below w _ _).alloc (by rw [e2];omega) _,((zyI w 93 [.int .i64 y.kind,.int .i64 y.size,.int .i64 y.deep,.int .i64 y.subs]).alloc _).alloc _,(two_blk w _ 93 [.int .i64 0,.int .i64 0,.int .i64 0,.int .i64 0]).alloc _,?_⟩
 have:=zyI ((w.alloc (.cells #[.int .i64 y.kind,.int .i64 y.size,.int .i64 y.deep,.int .i64 y.subs] 93)).alloc (.cells #[.int .i64 0,.int .i64 0,.int .i64 0,.int .i64 0] 93)) 132 [.int .i64 0,.int .i64 0,.int .i64 0,.int .i64 0,.int .i64 0,.int .i64 0,.int .i64 0]
 rw [e2] at this
 exact this
theorem times_any1 (y:Tr.Form) (w:World) (hy:FB1 y) (mx:Int) (hx:mx < 0) :
  Calls Tryz.prog 69 #[fv y,.int .i64 0,.int .i64 mx] w fun e w'=>e=.returned (fv (timesF y 0 mx))∧Below w.heap.size w w':=by
 have e1:timesF y 0 mx=aboveF 6 y:=by unfold timesF;rw [if_pos ⟨hx,rfl⟩]
 rw [e1]
 clear e1
 have hA:=fun u=>zzA (above_any 6 y hy.1 u)
 obtain ⟨g,hg⟩:∃ g,g=aboveF 6 y:=⟨_,rfl⟩
 rw [←hg] at hA ⊢
 clear hg
 have HS:=zzA (times_start w y rfl)
 simp only [fv,fvals] at hA ⊢
 go_enter Tryz.func69,Tryz.ntmps69
 go_wp2_with (go_at_call 65;refine (hA _).out.mono ?_;rintro e w2 ⟨rfl,hb2⟩;have hR2:=HS.out.2.2.1.below hb2 HS.out.2.2.1.lt;have HR2:=zzA hR2;have HB2:=zzA (HS.out.1.trans (hb2.mono HS.out.1.size));have q0:w2.cell? ⟨w.heap.size+1,0,none⟩=some (.int .i64 0):=hR2.cell 0;have s0:=hR2.frozen 0;have q1:w2.cell? ⟨w.heap.size+1,1,none⟩=some (.int .i64 0):=hR2.cell 1;have s1:=hR2.frozen 1;have q2:w2.cell? ⟨w.heap.size+1,2,none⟩=some (.int .i64 0):=hR2.cell 2;have s2:=hR2.frozen 2;have q3:w2.cell? ⟨w.heap.size+1,3,none⟩=some (.int .i64 0):=hR2.cell 3;have s3:=hR2.frozen 3;have s9:=hR2.lt;clear hb2 hR2;simp only [])
 refine zzm (form_ret rfl _ _ (w.heap.size+1) (.int .i64 g.kind) (.int .i64 g.size) (.int .i64 g.deep) (.int .i64 g.subs) rfl ((((HR2.out.set_ 0 (.int .i64 g.kind)).set_ 1 (.int .i64 g.size)).set_ 2 (.int .i64 g.deep)).set_ 3 (.int .i64 g.subs))) rfl ?_
 refine ⟨rfl,zyH HB2.out ((((zyG ⟨w.heap.size+1,0,none⟩ _).trans (zyG ⟨w.heap.size+1,1,none⟩ _)).trans (zyG ⟨w.heap.size+1,2,none⟩ _)).trans (zyG ⟨w.heap.size+1,3,none⟩ _)) ?_ HB2.out.size⟩
 intro b hb;simp at hb;omega
theorem times_any2 (y:Tr.Form) (w:World) (hy:FB1 y) (mn mx:Int) (hx:mx < 0) (h0:1≤mn) (h1:mn≤1000) :
  Calls Tryz.prog 69 #[fv y,.int .i64 mn,.int .i64 mx] w fun e w'=>e=.returned (fv (timesF y mn mx))∧Below w.heap.size w w':=by
 have e1:timesF y mn mx=jform (jput (jput j0 y (mn - 1)) (aboveF 6 y) 1):=by unfold timesF;rw [if_neg (by omega),if_pos hx]
 rw [e1]
 clear e1
 have hm:(mn==0)=false:=by simp;omega
 have hA:=fun u=>zzA (above_any 6 y hy.1 u)
 have fa:=fb1_above (k:=6) hy (by decide)
 have j1:=jb1_put jb1_zero hy (n:=mn - 1) (by omega)
 have j2:=jb1_put j1 fa (n:=1) (by decide)
 have hP1:=fun u hu=>zzA (jput_any (w.heap.size+1+1) j0 y (mn - 1) u hu jb1_zero.1 hy.1 (by omega) (by omega))
 obtain ⟨a,ha⟩:∃ g,g=aboveF 6 y:=⟨_,rfl⟩
 rw [←ha] at hA fa j2 ⊢
 have hP2:=fun u hu=>zzA (jput_any (w.heap.size+1+1) (jput j0 y (mn - 1)) a 1 u hu j1.1 fa.1 (by decide) (by decide))
 have hF:=fun u hu=>zzA (jform_any (w.heap.size+1+1) (jput (jput j0 y (mn - 1)) a 1) u hu j2.1)
 obtain ⟨g,hg⟩:∃ g,g=jform (jput (jput j0 y (mn - 1)) a 1):=⟨_,rfl⟩
 rw [←hg] at hF ⊢
 obtain ⟨ja,hja⟩:∃ j,j=jput j0 y (mn - 1):=⟨_,rfl⟩
 rw [←hja] at hP1 hP2 hF
 obtain ⟨jb,hjb⟩:∃ j,j=jput ja a 1:=⟨_,rfl⟩
 rw [←hjb] at hP2 hF
 clear ha hg hja hjb fa j1 j2 hy
 have HS:=zzA (times_start w y rfl)
 simp only [fv,fvals] at hA hP1 hP2 hF ⊢
 go_enter Tryz.func69,Tryz.ntmps69
 go_wp2_with fail
 generalize (((w.alloc (.cells #[.int .i64 y.kind,.int .i64 y.size,.int .i64 y.deep,.int .i64 y.subs] 93)).alloc (.cells #[.int .i64 0,.int .i64 0,.int .i64 0,.int .i64 0] 93)).alloc (.cells #[.int .i64 0,.int .i64 0,.int .i64 0,.int .i64 0,.int .i64 0,.int .i64 0,.int .i64 0] 132))=w3 at *
 refine (hP1 _ HS.out.2.2.2).out.mono ?_
 rintro e w4 ⟨rfl,hj4,hk4⟩
 have HB4:=zzA (zyH HS.out.1 hk4 (by intro k hk;simp at hk;omega) HS.out.1.size)
 have HY4:=zzA (HS.out.2.1.kept hk4 (by simp;omega))
 have HR4:=zzA (HS.out.2.2.1.kept hk4 (by simp))
 have HJ4:=zzA hj4
 clear hk4 hj4
 simp only []
 have c0:w4.cell? ⟨w.heap.size,0,none⟩=some (.int .i64 y.kind):=HY4.out.cell 0
 have c1:w4.cell? ⟨w.heap.size,1,none⟩=some (.int .i64 y.size):=HY4.out.cell 1
 have c2:w4.cell? ⟨w.heap.size,2,none⟩=some (.int .i64 y.deep):=HY4.out.cell 2
 have c3:w4.cell? ⟨w.heap.size,3,none⟩=some (.int .i64 y.subs):=HY4.out.cell 3
 go_wp2_with fail
 refine (hA w4).out.mono ?_
 rintro e w5 ⟨rfl,hb5⟩
 have HB5:=zzA (HB4.out.trans (hb5.mono HB4.out.size))
 have HY5:=zzA (HY4.out.below hb5 HY4.out.lt)
 have HR5:=zzA (HR4.out.below hb5 HR4.out.lt)
 have HJ5:=zzA (HJ4.out.below hb5 HJ4.out.lt)
 clear hb5
 simp only []
 have c0:w5.cell? ⟨w.heap.size,0,none⟩=some (.int .i64 y.kind):=HY5.out.cell 0
 have c1:w5.cell? ⟨w.heap.size,1,none⟩=some (.int .i64 y.size):=HY5.out.cell 1
 have c2:w5.cell? ⟨w.heap.size,2,none⟩=some (.int .i64 y.deep):=HY5.out.cell 2
 have c3:w5.cell? ⟨w.heap.size,3,none⟩=some (.int .i64 y.subs):=HY5.out.cell 3
 go_wp2_with fail
 refine (hP2 w5 HJ5.out).out.mono ?_
 rintro e w6 ⟨rfl,hj6,hk6⟩
 have HB6:=zzA (zyH HB5.out hk6 (by intro k hk;simp at hk;omega) HB5.out.size)
 have HY6:=zzA (HY5.out.kept hk6 (by simp;omega))
 have HR6:=zzA (HR5.out.kept hk6 (by simp))
 have HJ6:=zzA hj6
 clear hk6 hj6
 simp only []
 have c0:w6.cell? ⟨w.heap.size,0,none⟩=some (.int .i64 y.kind):=HY6.out.cell 0
 have c1:w6.cell? ⟨w.heap.size,1,none⟩=some (.int .i64 y.size):=HY6.out.cell 1
 have c2:w6.cell? ⟨w.heap.size,2,none⟩=some (.int .i64 y.deep):=HY6.out.cell 2
 have c3:w6.cell? ⟨w.heap.size,3,none⟩=some (.int .i64 y.subs):=HY6.out.cell 3
 go_wp2_with fail
 refine (hF w6 HJ6.out).out.mono ?_
 rintro e w7 ⟨rfl,hb7⟩
 have HB7:=zzA (HB6.out.trans (hb7.mono HB6.out.size))
 have HY7:=zzA (HY6.out.below hb7 HY6.out.lt)
 have HR7:=zzA (HR6.out.below hb7 HR6.out.lt)
 have HJ7:=zzA (HJ6.out.below hb7 HJ6.out.lt)
 clear hb7
 simp only []
 have c0:w7.cell? ⟨w.heap.size,0,none⟩=some (.int .i64 y.kind):=HY7.out.cell 0
 have c1:w7.cell? ⟨w.heap.size,1,none⟩=some (.int .i64 y.size):=HY7.out.cell 1
 have c2:w7.cell? ⟨w.heap.size,2,none⟩=some (.int .i64 y.deep):=HY7.out.cell 2
 have c3:w7.cell? ⟨w.heap.size,3,none⟩=some (.int .i64 y.subs):=HY7.out.cell 3
 have q0:w7.cell? ⟨w.heap.size+1,0,none⟩=some (.int .i64 0):=HR7.out.cell 0
 have s0:=HR7.out.frozen 0
 have q1:w7.cell? ⟨w.heap.size+1,1,none⟩=some (.int .i64 0):=HR7.out.cell 1
 have s1:=HR7.out.frozen 1
 have q2:w7.cell? ⟨w.heap.size+1,2,none⟩=some (.int .i64 0):=HR7.out.cell 2
 have s2:=HR7.out.frozen 2
 have q3:w7.cell? ⟨w.heap.size+1,3,none⟩=some (.int .i64 0):=HR7.out.cell 3
 have s3:=HR7.out.frozen 3
 have s9:=HR7.out.lt
 go_wp2_with fail
 refine zzm (form_ret rfl _ _ (w.heap.size+1) (.int .i64 g.kind) (.int .i64 g.size) (.int .i64 g.deep) (.int .i64 g.subs) rfl ((((HR7.out.set_ 0 (.int .i64 g.kind)).set_ 1 (.int .i64 g.size)).set_ 2 (.int .i64 g.deep)).set_ 3 (.int .i64 g.subs))) rfl ?_
 refine ⟨rfl,zyH HB7.out ((((zyG ⟨w.heap.size+1,0,none⟩ _).trans (zyG ⟨w.heap.size+1,1,none⟩ _)).trans (zyG ⟨w.heap.size+1,2,none⟩ _)).trans (zyG ⟨w.heap.size+1,3,none⟩ _)) ?_ HB7.out.size⟩
 intro b hb;simp at hb;omega
structure TS (w:World) (y:Tr.Form) (j:Jn) (ob:Nat) (f:Tr.Form) (wr:World):Prop where
 below:Below w.heap.size w wr
 blk:Blk wr w.heap.size 93 [.int .i64 y.kind,.int .i64 y.size,.int .i64 y.deep,.int .i64 y.subs]
 res:Blk wr (w.heap.size+1) 93 [.int .i64 0,.int .i64 0,.int .i64 0,.int .i64 0]
 jn:Blk wr (w.heap.size+1+1) 132 (jvals j)
 opt:Blk wr ob 93 (fvals f)
 far:w.heap.size+1+1 < ob
theorem TS.bel {w:World} {y:Tr.Form} {j:Jn} {ob:Nat} {f:Tr.Form} {wr wq:World} (h:TS w y j ob f wr) (hb:Below wr.heap.size wr wq):TS w y j ob f wq :=
 ⟨h.below.trans (hb.mono h.below.size),h.blk.below hb h.blk.lt,h.res.below hb h.res.lt,h.jn.below hb h.jn.lt,h.opt.below hb h.opt.lt,h.far⟩
theorem TS.jpt {w:World} {y:Tr.Form} {j j':Jn} {ob:Nat} {f:Tr.Form} {wr wq:World} (h:TS w y j ob f wr) (hb:Kept wr wq [w.heap.size+1+1]) (hj:Blk wq (w.heap.size+1+1) 132 (jvals j')):TS w y j' ob f wq:=by
 have hf:=h.far
 exact ⟨zyH h.below hb (by intro k hk;simp at hk;omega) h.below.size,h.blk.kept hb (by simp;omega),h.res.kept hb (by simp),hj,h.opt.kept hb (by simp;omega),h.far⟩
theorem TS.kpt {w:World} {y:Tr.Form} {j:Jn} {ob g:Nat} {f:Tr.Form} {wr wq:World} (h:TS w y j ob f wr) (hg:ob < g) (hb:Kept wr wq [g]):TS w y j ob f wq:=by
 have hf:=h.far
 exact ⟨zyH h.below hb (by intro k hk;simp at hk;omega) h.below.size,h.blk.kept hb (by simp;omega),h.res.kept hb (by simp;omega),h.jn.kept hb (by simp;omega),h.opt.kept hb (by simp;omega),h.far⟩
theorem TS.setf {w:World} {y:Tr.Form} {j:Jn} {ob:Nat} {f:Tr.Form} {wr:World} (h:TS w y j ob f wr) (g:Tr.Form) :
  TS w y j ob g ((((wr.setCell ⟨ob,0,none⟩ (.int .i64 g.kind)).setCell ⟨ob,1,none⟩ (.int .i64 g.size)).setCell ⟨ob,2,none⟩ (.int .i64 g.deep)).setCell ⟨ob,3,none⟩ (.int .i64 g.subs)):=by
 have hf:=h.far
 have hk:Kept wr ((((wr.setCell ⟨ob,0,none⟩ (.int .i64 g.kind)).setCell ⟨ob,1,none⟩ (.int .i64 g.size)).setCell ⟨ob,2,none⟩ (.int .i64 g.deep)).setCell ⟨ob,3,none⟩ (.int .i64 g.subs)) [ob] :=
  ((((zyG ⟨ob,0,none⟩ _).trans (zyG ⟨ob,1,none⟩ _)).trans (zyG ⟨ob,2,none⟩ _)).trans (zyG ⟨ob,3,none⟩ _)).more (by intro k hk;simp at hk;exact .inl (by simp [hk]))
 exact ⟨zyH h.below hk (by intro k hk;simp at hk;omega) h.below.size,h.blk.kept hk (by simp;omega),h.res.kept hk (by simp;omega),h.jn.kept hk (by simp;omega),(((h.opt.set_ 0 _).set_ 1 _).set_ 2 _).set_ 3 _,h.far⟩
theorem times_any3 (y:Tr.Form) (w:World) (hy:FB1 y) (mn mx:Int) (hx:0≤mx) (hx1:mx≤1000) (h0:0≤mn) (h1:mn≤1000) :
  Calls Tryz.prog 69 #[fv y,.int .i64 mn,.int .i64 mx] w fun e w'=>e=.returned (fv (timesF y mn mx))∧Below w.heap.size w w':=by
 have e1:timesF y mn mx=jform (jput (jput j0 y mn) (optF y (mx - mn).toNat) 1):=by unfold timesF;rw [if_neg (by omega),if_neg (by omega)]
 rw [e1]
 clear e1
 have hm:¬mx < 0:=by omega
 have HY:=zzA hy
 obtain ⟨n,hn⟩:∃ n:Nat,n=(mx - mn).toNat:=⟨_,rfl⟩
 rw [←hn]
 have HN:=zzA hn
 clear hn
 have j1:=jb1_put jb1_zero hy (n:=mn) (by omega)
 have hP1:=fun u hu=>zzA (jput_any (w.heap.size+1+1) j0 y mn u hu jb1_zero.1 hy.1 h0 h1)
 have HJ1:=zzA j1
 obtain ⟨ja,hja⟩:∃ j,j=jput j0 y mn:=⟨_,rfl⟩
 rw [←hja] at hP1 HJ1 ⊢
 clear hja j1 hy
 have HS:=zzA (times_start w y rfl)
 simp only [fv,fvals] at hP1 ⊢
 go_enter Tryz.func69,Tryz.ntmps69
 go_wp2_with fail
 generalize (((w.alloc (.cells #[.int .i64 y.kind,.int .i64 y.size,.int .i64 y.deep,.int .i64 y.subs] 93)).alloc (.cells #[.int .i64 0,.int .i64 0,.int .i64 0,.int .i64 0] 93)).alloc (.cells #[.int .i64 0,.int .i64 0,.int .i64 0,.int .i64 0,.int .i64 0,.int .i64 0,.int .i64 0] 132))=w3 at *
 refine (hP1 _ HS.out.2.2.2).out.mono ?_
 rintro e w4 ⟨rfl,hj4,hk4⟩
 have HB4:=zzA (zyH HS.out.1 hk4 (by intro k hk;simp at hk;omega) HS.out.1.size)
 have HY4:=zzA (HS.out.2.1.kept hk4 (by simp;omega))
 have HR4:=zzA (HS.out.2.2.1.kept hk4 (by simp))
 have HJ4:=zzA hj4
 clear hk4 hj4
 simp only []
 have c0:w4.cell? ⟨w.heap.size,0,none⟩=some (.int .i64 y.kind):=HY4.out.cell 0
 have c1:w4.cell? ⟨w.heap.size,1,none⟩=some (.int .i64 y.size):=HY4.out.cell 1
 have c2:w4.cell? ⟨w.heap.size,2,none⟩=some (.int .i64 y.deep):=HY4.out.cell 2
 have c3:w4.cell? ⟨w.heap.size,3,none⟩=some (.int .i64 y.subs):=HY4.out.cell 3
 go_wp2_with fail
 have HT:=zzA (show TS w y ja w4.heap.size (optF y 0) (w4.alloc (.cells #[.int .i64 1,.int .i64 1,.int .i64 1,.int .i64 0] 93)) from
  ⟨HB4.out.alloc HB4.out.size _,HY4.out.alloc _,HR4.out.alloc _,HJ4.out.alloc _,zyI w4 _ [.int .i64 1,.int .i64 1,.int .i64 1,.int .i64 0],HJ4.out.lt⟩)
 clear c0 c1 c2 c3 HS HB4 HY4 HR4 HJ4
 generalize w4.alloc (.cells #[.int .i64 1,.int .i64 1,.int .i64 1,.int .i64 0] 93)=w5 at *
 generalize w4.heap.size=ob at *
 go_loopw [17] (fun q wr=>∃ i:Nat,i≤n∧q=.int .i64 (i:Int)∧TS w y ja ob (optF y i) wr) (fun q _=>n - (intOf q).toNat)
 case atStart=>exact ⟨0,zzZ _,rfl,HT.out⟩
 case round =>
  obtain ⟨i,hi,rfl,ht⟩:=hrel
  have HT1:=zzA ht
  clear ht
  by_cases hlt:i < n
  ·have hlt2:(i:Int) < mx - mn:=by have:=HN.out;omega
   have fo1:=fb1_opt HY.out i
   have k1:=jb1_put jb1_zero HY.out (n:=1) (by decide)
   have k2:=jb1_put k1 fo1 (n:=1) (by decide)
   have k3:=fb1_jform k2
   have hg:optF y (i+1)=aboveF 6 (jform (jput (jput j0 y 1) (optF y i) 1)):=rfl
   have HG:=zzA hg
   clear hg
   obtain ⟨fo,hfo⟩:∃ f,f=optF y i:=⟨_,rfl⟩
   rw [←hfo] at HT1 HG fo1 k2 k3
   have hA1:=fun ib u hu=>zzA (jput_any ib j0 y 1 u hu jb1_zero.1 HY.out.1 (by decide) (by decide))
   have hA2:=fun ib u hu=>zzA (jput_any ib (jput j0 y 1) fo 1 u hu k1.1 fo1.1 (by decide) (by decide))
   have hA3:=fun ib u hu=>zzA (jform_any ib (jput (jput j0 y 1) fo 1) u hu k2.1)
   have hA4:=fun u=>zzA (above_any 6 (jform (jput (jput j0 y 1) fo 1)) k3.1 u)
   rw [←HG.out] at hA4
   obtain ⟨g,hg⟩:∃ g,g=optF y (i+1):=⟨_,rfl⟩
   rw [←hg] at hA4
   have HGG:=zzA hg
   obtain ⟨m1,hm1⟩:∃ m,m=jput j0 y 1:=⟨_,rfl⟩
   rw [←hm1] at hA1 hA2 hA3 hA4
   obtain ⟨m2,hm2⟩:∃ m,m=jput m1 fo 1:=⟨_,rfl⟩
   rw [←hm2] at hA2 hA3 hA4
   obtain ⟨m3,hm3⟩:∃ m,m=jform m2:=⟨_,rfl⟩
   rw [←hm3] at hA3 hA4
   clear hg hm1 hm2 hm3 hfo fo1 k1 k2 k3 HG
   simp only [fv,fvals] at hA1 hA2 hA3 hA4
   have HQ:=zzA (HT1.out.bel ((zzb _ _).alloc (zzF _) (.cells #[.int .i64 0,.int .i64 0,.int .i64 0,.int .i64 0,.int .i64 0,.int .i64 0,.int .i64 0] 132)))
   have c0:(wr.alloc (.cells #[.int .i64 0,.int .i64 0,.int .i64 0,.int .i64 0,.int .i64 0,.int .i64 0,.int .i64 0] 132)).cell? ⟨w.heap.size,0,none⟩=some (.int .i64 y.kind):=HQ.out.blk.cell 0
   have c1:(wr.alloc (.cells #[.int .i64 0,.int .i64 0,.int .i64 0,.int .i64 0,.int .i64 0,.int .i64 0,.int .i64 0] 132)).cell? ⟨w.heap.size,1,none⟩=some (.int .i64 y.size):=HQ.out.blk.cell 1
   have c2:(wr.alloc (.cells #[.int .i64 0,.int .i64 0,.int .i64 0,.int .i64 0,.int .i64 0,.int .i64 0,.int .i64 0] 132)).cell? ⟨w.heap.size,2,none⟩=some (.int .i64 y.deep):=HQ.out.blk.cell 2
   have c3:(wr.alloc (.cells #[.int .i64 0,.int .i64 0,.int .i64 0,.int .i64 0,.int .i64 0,.int .i64 0,.int .i64 0] 132)).cell? ⟨w.heap.size,3,none⟩=some (.int .i64 y.subs):=HQ.out.blk.cell 3
   go_wp2_with fail
   have HI:=zzA (zyI wr 132 [.int .i64 0,.int .i64 0,.int .i64 0,.int .i64 0,.int .i64 0,.int .i64 0,.int .i64 0])
   have hob:=HT1.out.opt.lt
   clear c0 c1 c2 c3 HT1
   generalize wr.alloc (.cells #[.int .i64 0,.int .i64 0,.int .i64 0,.int .i64 0,.int .i64 0,.int .i64 0,.int .i64 0] 132)=wa at *
   generalize wr.heap.size=ib at *
   refine (hA1 ib wa HI.out).out.mono ?_
   rintro e w6 ⟨rfl,hj6,hk6⟩
   have HT6:=zzA (HQ.out.kpt hob hk6)
   have HI6:=zzA hj6
   clear hj6 hk6
   simp only []
   have o0:w6.cell? ⟨ob,0,none⟩=some (.int .i64 fo.kind):=HT6.out.opt.cell 0
   have o1:w6.cell? ⟨ob,1,none⟩=some (.int .i64 fo.size):=HT6.out.opt.cell 1
   have o2:w6.cell? ⟨ob,2,none⟩=some (.int .i64 fo.deep):=HT6.out.opt.cell 2
   have o3:w6.cell? ⟨ob,3,none⟩=some (.int .i64 fo.subs):=HT6.out.opt.cell 3
   go_wp2_with fail
   refine (hA2 ib w6 HI6.out).out.mono ?_
   rintro e w7 ⟨rfl,hj7,hk7⟩
   have HT7:=zzA (HT6.out.kpt hob hk7)
   have HI7:=zzA hj7
   clear hj7 hk7 o0 o1 o2 o3
   simp only []
   go_wp2_with fail
   refine (hA3 ib w7 HI7.out).out.mono ?_
   rintro e w8 ⟨rfl,hb8⟩
   have HT8:=zzA (HT7.out.bel hb8)
   clear hb8
   simp only []
   go_wp2_with fail
   refine (hA4 w8).out.mono ?_
   rintro e w9 ⟨rfl,hb9⟩
   have HT9:=zzA (HT8.out.bel hb9)
   clear hb9
   simp only []
   have o0:w9.cell? ⟨ob,0,none⟩=some (.int .i64 fo.kind):=HT9.out.opt.cell 0
   have o1:w9.cell? ⟨ob,1,none⟩=some (.int .i64 fo.size):=HT9.out.opt.cell 1
   have o2:w9.cell? ⟨ob,2,none⟩=some (.int .i64 fo.deep):=HT9.out.opt.cell 2
   have o3:w9.cell? ⟨ob,3,none⟩=some (.int .i64 fo.subs):=HT9.out.opt.cell 3
   have s0:=HT9.out.opt.frozen 0
   have s1:=HT9.out.opt.frozen 1
   have s2:=HT9.out.opt.frozen 2
   have s3:=HT9.out.opt.frozen 3
   have s4:=HT9.out.opt.lt
   go_wp2_with fail
   go_roundw
   case rel=>exact ⟨i+1,by omega,by go_num,HGG.out ▸ HT9.out.setf g⟩
   case measure=>simp [intOf];omega
  ·obtain rfl:i=n:=by omega
   have hlt2:¬(i:Int) < mx - mn:=by have:=HN.out;omega
   have fo1:=fb1_opt HY.out i
   obtain ⟨fo,hfo⟩:∃ f,f=optF y i:=⟨_,rfl⟩
   rw [←hfo] at HT1 fo1
   have k1:=jb1_put HJ1.out fo1 (n:=1) (by decide)
   have hA1:=fun u hu=>zzA (jput_any (w.heap.size+1+1) ja fo 1 u hu HJ1.out.1 fo1.1 (by decide) (by decide))
   have hA2:=fun u hu=>zzA (jform_any (w.heap.size+1+1) (jput ja fo 1) u hu k1.1)
   obtain ⟨g,hg⟩:∃ g,g=jform (jput ja fo 1):=⟨_,rfl⟩
   rw [←hg] at hA2
   rw [hfo] at hg
   have HGG:=zzA hg
   obtain ⟨m1,hm1⟩:∃ m,m=jput ja fo 1:=⟨_,rfl⟩
   rw [←hm1] at hA1 hA2
   clear hg hm1 hfo fo1 k1
   simp only [fv,fvals] at hA1 hA2
   have o0:wr.cell? ⟨ob,0,none⟩=some (.int .i64 fo.kind):=HT1.out.opt.cell 0
   have o1:wr.cell? ⟨ob,1,none⟩=some (.int .i64 fo.size):=HT1.out.opt.cell 1
   have o2:wr.cell? ⟨ob,2,none⟩=some (.int .i64 fo.deep):=HT1.out.opt.cell 2
   have o3:wr.cell? ⟨ob,3,none⟩=some (.int .i64 fo.subs):=HT1.out.opt.cell 3
   go_wp2_with fail
   refine (hA1 wr HT1.out.jn).out.mono ?_
   rintro e w6 ⟨rfl,hj6,hk6⟩
   have HT6:=zzA (HT1.out.jpt hk6 hj6)
   clear hj6 hk6 o0 o1 o2 o3
   simp only []
   go_wp2_with fail
   refine (hA2 w6 HT6.out.jn).out.mono ?_
   rintro e w7 ⟨rfl,hb7⟩
   have HT7:=zzA (HT6.out.bel hb7)
   clear hb7
   simp only []
   have q0:w7.cell? ⟨w.heap.size+1,0,none⟩=some (.int .i64 0):=HT7.out.res.cell 0
   have s0:=HT7.out.res.frozen 0
   have q1:w7.cell? ⟨w.heap.size+1,1,none⟩=some (.int .i64 0):=HT7.out.res.cell 1
   have s1:=HT7.out.res.frozen 1
   have q2:w7.cell? ⟨w.heap.size+1,2,none⟩=some (.int .i64 0):=HT7.out.res.cell 2
   have s2:=HT7.out.res.frozen 2
   have q3:w7.cell? ⟨w.heap.size+1,3,none⟩=some (.int .i64 0):=HT7.out.res.cell 3
   have s3:=HT7.out.res.frozen 3
   have s9:=HT7.out.res.lt
   go_wp2_with fail
   rw [←HGG.out]
   refine zzm (form_ret rfl _ _ (w.heap.size+1) (.int .i64 g.kind) (.int .i64 g.size) (.int .i64 g.deep) (.int .i64 g.subs) rfl ((((HT7.out.res.set_ 0 (.int .i64 g.kind)).set_ 1 (.int .i64 g.size)).set_ 2 (.int .i64 g.deep)).set_ 3 (.int .i64 g.subs))) rfl ?_
   refine ⟨rfl,zyH HT7.out.below ((((zyG ⟨w.heap.size+1,0,none⟩ _).trans (zyG ⟨w.heap.size+1,1,none⟩ _)).trans (zyG ⟨w.heap.size+1,2,none⟩ _)).trans (zyG ⟨w.heap.size+1,3,none⟩ _)) ?_ HT7.out.below.size⟩
   intro b hb;simp at hb;omega
theorem times_any (y:Tr.Form) (w:World) (hy:FB1 y) (mn mx:Int) (h0:0≤mn) (h1:mn≤1000) (hx:mx≤1000) :
  Calls Tryz.prog 69 #[fv y,.int .i64 mn,.int .i64 mx] w fun e w'=>e=.returned (fv (timesF y mn mx))∧Below w.heap.size w w':=by
 by_cases hm:mx < 0
 ·by_cases hz:mn=0
  ·subst hz;exact times_any1 y w hy mx hm
  ·exact times_any2 y w hy mn mx hm (by omega) h1
 ·exact times_any3 y w hy mn mx (by omega) hx h0 h1
end Go.Proofs.YtgkclnmmjedmkaaGreat
