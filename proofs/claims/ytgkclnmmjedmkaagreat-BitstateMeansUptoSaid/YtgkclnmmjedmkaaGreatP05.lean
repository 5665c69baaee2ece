/- meaning.noted: notes with another one. -/
import Derived.BigQuiet
import Derived.Deep.RegionHeldLaw
import Derived.Test.YtgkclnmmjedmkaaGreatP03
import Derived.Test.YtgkclnmmjedmkaaGreatP04
set_option maxRecDepth 100000
set_option maxHeartbeats 4000000
namespace Go.Proofs.YtgkclnmmjedmkaaGreat
open Go.RowKit
theorem set_map_int (l:List Int) (j:Nat) (x:Int):(l.map (Value.int .i64)).set j (.int .i64 x)=(l.set j x).map (Value.int .i64):=by rw [List.map_set]
theorem noted_any (N:Option Addr) (n c j:Nat) (nt:List Int) (x:Int) (w:World) (hN:N=none→c=0) (hr:Reads w w.heap.size 1 N n c (nt.map (Value.int .i64))) (hn:n≤1099511627776) (hj:j < n) :
  Calls Tryz.prog 50 #[.slice N n c,.int .i64 (j:Int),.int .i64 x] w fun e w'=>∃ N' c',e=.returned (.slice N' n c')∧Below w.heap.size w w'∧RdA w' (fun b=>w.heap.size≤b∧b < w'.heap.size) 1 N' n c' ((nt.set j x).map (Value.int .i64)):=by
 have HR:=zzA hr
 have HCL:=zzA (clone_any N n c nt w hN hr hn)
 clear hr
 have hji:(j:Int) < (n:Int):=by omega
 go_enter Tryz.func50,Tryz.ntmps50
 go_wp2_with fail
 refine HCL.out.mono ?_
 rintro e w1 ⟨v,rfl,ho,hb⟩
 have hl:nt.length=n:=by have:=HR.out.len;simpa using this
 have hnp:0 < nt.length:=by omega
 obtain ⟨A',c',rfl⟩:=own_shape ho
 obtain ⟨g,rfl,-,hg1,hg2⟩:=own_form ho hnp
 have hg:=And.intro hg1 hg2
 have hro:=Reads.of_own ho
 have hlt:=hro.lt hnp
 have hcj:w1.cell? ⟨g,j,none⟩=some (.int .i64 (nt.getD j 0)):=by
  rw [ho.cellAt j (by omega),zza,zzJ (show j < nt.length by omega),zzf,zzJ (show j < nt.length by omega)];rfl
 have hfz:w1.frozen? ⟨g,j,none⟩=false:=ho.frozenAt j
 have HST:=zzA (ho.stored j (.int .i64 x))
 have HB:=zzA hb
 have HG:=zzA hg
 have hlt':=hlt
 rw [hl] at *
 clear ho hro hb
 go_wp2_with fail
 go_ret
 have hst:=HST.out.1
 rw [set_map_int] at hst
 have hr2:=Reads.of_own hst
 refine ⟨some ⟨g,0,none⟩,c',rfl,zyH HB.out (zyG ⟨g,j,none⟩ _) (fun k hk=>by simp only [zzE] at hk;subst hk;exact HG.out.1) HB.out.size,?_⟩
 exact ⟨hr2.le,hr2.cap,hr2.len,(fun h=>by cases h),fun _=>⟨g,0,rfl,⟨HG.out.1,by simpa using HG.out.2⟩,fun k u hu=>hr2.cellAt hu⟩⟩
section
variable {G:Wk} {w w':World} {s s':Mean.St} {b:Nat}
theorem Wk.st.out_lt (h:G.st w s) (hb:outB G.ob w=some b):b < w.heap.size:=by
 obtain ⟨v,ps,h1,h2,-⟩:=h.out
 unfold outB at hb
 rw [h1.cell 0] at hb
 simp only [zzR,Option.bind_some] at hb
 rcases h2.2 with ⟨rfl,_⟩ | ⟨g,cap,cur,rfl,_,hh,_⟩
 ·simp [Value.ownBlock] at hb
 ·obtain rfl:g=b:=by simpa [Value.ownBlock] using hb
  exact (Array.getElem?_eq_some_iff.1 hh).1
theorem Wk.st.still_new (h:G.st w s) (hc:G.cst w) (hb:Below w.heap.size w w') (h1:w.heap.size≤b) (h2:b < w'.heap.size):G.still w' b:=by
 refine ⟨h2,fun hm=>?_⟩
 rcases mem_mut.1 hm with e | e | e
 ·have:=hc.mb;omega
 ·have:=hc.ob;omega
 ·have hx:outB G.ob w=some b:=by unfold outB at e ⊢;rwa [hb.cell (p:=⟨G.ob,0,none⟩) hc.ob] at e
  have:=h.out_lt hx
  omega
theorem Wk.st.kept_below (h:G.st w s) (hc:G.cst w) (hb:Below w.heap.size w w'):G.st w' s:=h.below hb hc.mb hc.ob
theorem rd_pos {S:Nat→Prop} {n c:Nat} {A:Option Addr} {xs:List Value} (h:RdA w S 1 A n c xs) (hn:0 < n):∃ b off,A=some ⟨b,off,none⟩∧S b∧∀ j u,xs[j]?=some u→w.cell? ⟨b,off+j,none⟩=some u:=h.2.2.2.2 hn
end
theorem enters {f:FuncId} {fn:Func} (h:Tryz.prog.funcs[f]?=some fn) (h1:(fn.name== "runtime.NumGoroutine")=false) (h2:fn.body.isNone=false):∀ args u,(callFunc f args).run Tryz.prog u=.ok (.enter f args) u:=by
 intro args u
 unfold callFunc
 have h1':¬(fn.name= "runtime.NumGoroutine"):=by simpa using h1
 have h2':¬(fn.body=none):=by intro e;rw [e] at h2;cases h2
 simp [go_sem,h,h1',h2']
theorem dec_clo (G:Wk) (s s':Mean.St) (n:Mean.Un) (K:Mean.Kt) (pl:Nat) (nt:List Int) (h:G.chain s [.dcd n pl nt K] s'):G.does s (.go (.dec n K) pl nt) s':=by
 obtain ⟨s1,hd,rfl⟩:=h
 intro hpl hlen w v N c hc hs hr hk
 obtain ⟨f,bw,bn,bb,v',hf,rfl,h1,h2,h3,h4,h5⟩:=hk
 have HD:=zzA (hd h3 hpl hlen w v' N c hc hs hr h5)
 refine ⟨f,_,rfl,Or.elim hf (fun e=>by subst e;exact enters Tryz.func54 (by kernel_rfl) (by kernel_rfl)) (fun e=>by subst e;exact enters Tryz.func87 (by kernel_rfl) (by kernel_rfl)),?_⟩
 have c1:=h1.2
 have c2:=h2.2
 have c3:=h4.2
 clear hd hc hs hr h1 h2 h4 h5
 rcases hf with rfl | rfl
 ·go_enter Tryz.func54,Tryz.ntmps54
  go_wp2_with fail
  refine HD.out.mono ?_
  rintro e w2 ⟨rfl,hx⟩
  have HX:=zzA hx
  clear hx
  simp only []
  go_wp2_with fail
  go_end0
  exact ⟨rfl,HX.out⟩
 ·go_enter Tryz.func87,Tryz.ntmps87
  go_wp2_with fail
  refine HD.out.mono ?_
  rintro e w2 ⟨rfl,hx⟩
  have HX:=zzA hx
  clear hx
  simp only []
  go_wp2_with fail
  go_end0
  exact ⟨rfl,HX.out⟩
section
variable {G:Wk} {w:World} {s:Mean.St}
theorem kv_func:∀ {K:Mean.Kt} {v:Value},G.kv w K v→∃ f caps,v=.func (Fn.func f) #[] caps∧(∀ args u,(callFunc f args).run Tryz.prog u=.ok (.enter f args) u)
 | .top,_,h=>⟨_,_,h,enters Tryz.func30 (by kernel_rfl) (by kernel_rfl)⟩
 | .row _ _,_,⟨_,_,_,_,_,_,_,h,_⟩=>⟨_,_,h,enters Tryz.func86 (by kernel_rfl) (by kernel_rfl)⟩
 | .grp _ _,_,⟨_,_,_,_,h,_⟩=>⟨_,_,h,enters Tryz.func51 (by kernel_rfl) (by kernel_rfl)⟩
 | .dec _ _,_,⟨_,_,_,_,_,hf,h,_⟩=>⟨_,_,h,Or.elim hf (fun e=>by subst e;exact enters Tryz.func54 (by kernel_rfl) (by kernel_rfl)) (fun e=>by subst e;exact enters Tryz.func87 (by kernel_rfl) (by kernel_rfl))⟩
theorem boxes3 (hc:G.cst w) (hs:G.st w s) (t1 t2 t3:TypeId) (v1 v2 v3:Value) :
  G.fr w (((w.alloc (.cells #[v1] t1)).alloc (.cells #[v2] t2)).alloc (.cells #[v3] t3))∧G.st (((w.alloc (.cells #[v1] t1)).alloc (.cells #[v2] t2)).alloc (.cells #[v3] t3)) s ∧
  G.box (((w.alloc (.cells #[v1] t1)).alloc (.cells #[v2] t2)).alloc (.cells #[v3] t3)) w.heap.size v1∧G.box (((w.alloc (.cells #[v1] t1)).alloc (.cells #[v2] t2)).alloc (.cells #[v3] t3)) (w.heap.size+1) v2∧G.box (((w.alloc (.cells #[v1] t1)).alloc (.cells #[v2] t2)).alloc (.cells #[v3] t3)) (w.heap.size+1+1) v3:=by
 have hb:Below w.heap.size w (((w.alloc (.cells #[v1] t1)).alloc (.cells #[v2] t2)).alloc (.cells #[v3] t3)):=(((zzb _ _).alloc (zzF _) _).alloc (by simp) _).alloc (by simp;omega) _
 have b1:=((zyI w t1 [v1]).alloc (.cells #[v2] t2)).alloc (.cells #[v3] t3)
 have b2:=(zyI (w.alloc (.cells #[v1] t1)) t2 [v2]).alloc (.cells #[v3] t3)
 have b3:=zyI ((w.alloc (.cells #[v1] t1)).alloc (.cells #[v2] t2)) t3 [v3]
 rw [show (w.alloc (.cells #[v1] t1)).heap.size=w.heap.size+1 from by simp] at b2
 rw [show ((w.alloc (.cells #[v1] t1)).alloc (.cells #[v2] t2)).heap.size=w.heap.size+1+1 from by simp] at b3
 refine ⟨hc.below hb,hs.kept_below hc hb,⟨hs.still_new hc hb (zzF _) b1.lt,b1.cell 0⟩,⟨hs.still_new hc hb (by omega) b2.lt,b2.cell 0⟩,⟨hs.still_new hc hb (by omega) b3.lt,b3.cell 0⟩⟩
end
theorem row_any (G:Wk) (s s':Mean.St) (l:List Mean.Un) (K:Mean.Kt) (pl:Nat) (nt:List Int) (h:G.does s (Mean.rowT l pl nt K) s') (hl:∀ x∈l,x∈G.U) (hpl:pl≤G.nt) (hlen:nt.length=G.NL)
  (w:World) (v:Value) (N A:Option Addr) (c sc:Nat) (hc:G.cst w) (hs:G.st w s) (hr:RdA w (G.still w) 1 N G.NL c (nt.map (Value.int .i64))) (hk:G.kv w K v) (ha:RdA w (G.still w) 1 A l.length sc (ptrs l)) :
  Calls Tryz.prog 49 #[.pointer (some ⟨G.wb,0,none⟩),.slice A l.length sc,.int .i64 (pl:Int),.slice N G.NL c,v] w fun e w'=>e=.returned (.tuple #[])∧G.fr w w'∧G.st w' s':=by
 obtain ⟨vf,vc,rfl,-⟩:=kv_func hk
 obtain ⟨f3,hs3,x1,x2,x3⟩:=boxes3 hc hs 63 108 104 (.pointer (some ⟨G.wb,0,none⟩)) (.slice A l.length sc) (.func (Fn.func vf) #[] vc)
 have HF3:=zzA f3
 have HC3:=zzA (hc.fr f3)
 have HS3:=zzA hs3
 have HR3:=zzA (hr.fr f3)
 have HK3:=zzA (Wk.kv_fr f3 hk)
 have HA3:=zzA (ha.fr f3)
 have X1:=zzA x1
 have X2:=zzA x2
 have X3:=zzA x3
 clear f3 hs3 x1 x2 x3 hc hs hr hk ha
 generalize hw3:((w.alloc (.cells #[.pointer (some ⟨G.wb,0,none⟩)] 63)).alloc (.cells #[.slice A l.length sc] 108)).alloc (.cells #[.func (Fn.func vf) #[] vc] 104)=w3 at *
 cases l with
 | nil =>
  obtain ⟨f,caps,he,hgo,hd⟩:=h hpl hlen w3 _ N c HC3.out HS3.out HR3.out HK3.out
  cases he
  have HD:=zzA hd
  clear hd h
  have c2:=X2.out.2
  have c3:=X3.out.2
  go_enter Tryz.func49,Tryz.ntmps49
  rw [←hw3] at c2 c3 HD
  go_wp2_with fail
  refine HD.out.mono ?_
  rintro e w4 ⟨rfl,hf4,hs4⟩
  have HF4:=zzA hf4
  have HS4:=zzA hs4
  clear hf4 hs4
  simp only []
  go_wp2_with fail
  rw [hw3] at HF4
  refine zzm (results_none rfl _ _ _) rfl ?_
  exact ⟨rfl,HF3.out.trans HF4.out,HS4.out⟩
 | cons s0 l =>
  obtain ⟨ab,ao,rfl,hab,hac⟩:=rd_pos HA3.out (by simp)
  have c0:w3.drew.cell? ⟨ab,ao,none⟩=some (.pointer (some ⟨s0.ad,0,none⟩)):=hac 0 _ rfl
  have c1:=X1.out.2
  have c2:=X2.out.2
  have d1:w3.drew.cell? ⟨w.heap.size,0,none⟩=some (.pointer (some ⟨G.wb,0,none⟩)):=X1.out.2
  have d2:w3.drew.cell? ⟨w.heap.size+1,0,none⟩=some (.slice (some ⟨ab,ao,none⟩) (l.length+1) sc):=X2.out.2
  have d3:w3.drew.cell? ⟨w.heap.size+1+1,0,none⟩=some (.func (Fn.func vf) #[] vc):=X3.out.2
  have hgt:(0:Int) < ((l.length:Int)+1):=by omega
  have hne:(((l.length:Int)+1)==0)=false:=zzh.2 (by omega)
  have fd:G.fr w3 w3.drew:=HC3.out.below (bdrewN (zzb _ _) 1)
  have hkv:G.kv w3.drew (.row l K) (.func (Fn.func 86) #[] #[.pointer (some ⟨w.heap.size,0,none⟩),.pointer (some ⟨w.heap.size+1,0,none⟩),.pointer (some ⟨w.heap.size+1+1,0,none⟩)]) :=
   ⟨w.heap.size,w.heap.size+1,w.heap.size+1+1,some ⟨ab,ao,none⟩,sc,s0,_,rfl,X1.out.fr fd,X2.out.fr fd,HA3.out.fr fd,fun x hx=>hl x (zzI _ hx),X3.out.fr fd,Wk.kv_fr fd HK3.out⟩
  have HD:=zzA (h (hl s0 zzH) hpl hlen w3.drew _ N c (HC3.out.fr fd) (HS3.out.below (bdrewN (zzb _ _) 1) HC3.out.mb HC3.out.ob) (HR3.out.fr fd) hkv)
  have HFD:=zzA fd
  have SAB:=zzA hab
  clear h hkv fd hab hac hl
  simp only [zzO] at *
  go_enter Tryz.func49,Tryz.ntmps49
  go_wp2_with fail
  have kA:w3.drew.cell? ⟨w.heap.size,0,none⟩=some (.pointer (some ⟨G.wb,0,none⟩))∧w3.drew.cell? ⟨w.heap.size+1,0,none⟩=some (.slice (some ⟨ab,ao,none⟩) (l.length+1) sc)∧w3.drew.cell? ⟨ab,ao,none⟩=some (.pointer (some ⟨s0.ad,0,none⟩)):=⟨d1,d2,c0⟩
  have hSB:=SAB.out
  clear c0 d1 d2 d3
  go_region_held_law (fun u=>u.cell? ⟨w.heap.size,0,none⟩=some (.pointer (some ⟨G.wb,0,none⟩))∧u.cell? ⟨w.heap.size+1,0,none⟩=some (.slice (some ⟨ab,ao,none⟩) (l.length+1) sc)∧u.cell? ⟨ab,ao,none⟩=some (.pointer (some ⟨s0.ad,0,none⟩))) (first | with_reducible exact kA | with_reducible exact kB)
   (first | (go_at_call 28;(with_reducible refine HD.out.mono ?_);rintro e w4 ⟨rfl,hx⟩;have HX:=zzA hx;have kB:w4.cell? ⟨w.heap.size,0,none⟩=some (.pointer (some ⟨G.wb,0,none⟩))∧w4.cell? ⟨w.heap.size+1,0,none⟩=some (.slice (some ⟨ab,ao,none⟩) (l.length+1) sc)∧w4.cell? ⟨ab,ao,none⟩=some (.pointer (some ⟨s0.ad,0,none⟩)):=⟨((X1.out.1.fr HFD.out).cell hx.1 0).trans kA.1,((X2.out.1.fr HFD.out).cell hx.1 0).trans kA.2.1,((SAB.out.fr HFD.out).cell hx.1 ao).trans kA.2.2⟩;clear hx;simp only []))
  go_end0
  exact ⟨rfl,HF3.out.trans (HFD.out.trans HX.out.1),HX.out.2⟩
theorem row_clo (G:Wk) (s s':Mean.St) (l:List Mean.Un) (K:Mean.Kt) (pl:Nat) (nt:List Int) (h:G.chain s [Mean.rowT l pl nt K] s'):G.does s (.go (.row l K) pl nt) s':=by
 obtain ⟨s1,hd,rfl⟩:=h
 intro hpl hlen w v N c hc hs hr hk
 obtain ⟨bw,bl,bb,A,sc,s0,v',rfl,h1,h2,h3,h4,h5,h6⟩:=hk
 refine ⟨_,_,rfl,enters Tryz.func86 (by kernel_rfl) (by kernel_rfl),?_⟩
 obtain ⟨ab,ao,rfl,hab,hac⟩:=rd_pos h3 (by omega)
 have hsc:=h3.1
 have fd:G.fr w w.drew:=hc.below (bdrewN (zzb _ _) 1)
 obtain ⟨A2,hA2,ha⟩:∃ A2:Option Addr,(A2=if sc=1 then some ⟨ab,ao,none⟩ else some ⟨ab,ao+1,none⟩)∧RdA w (G.still w) 1 A2 l.length (sc - 1) (ptrs l):=by
  refine ⟨_,rfl,by omega,by have:=h3.2.1;omega,by simp [ptrs],(fun h=>by split at h <;> cases h),fun hn=>⟨ab,ao+1,by rw [if_neg (by omega)],hab,fun j u hu=>?_⟩⟩
  rw [show ao+1+j=ao+(j+1) from by omega]
  exact hac (j+1) u hu
 have HRW:=zzA (row_any G s s' l K pl nt hd h4 hpl hlen w.drew v' N A2 c (sc - 1) (hc.fr fd) (hs.below (bdrewN (zzb _ _) 1) hc.mb hc.ob) (hr.fr fd) (Wk.kv_fr fd h6) (ha.fr fd))
 have H1:=zzA h1
 have H2:=zzA h2
 have H5:=zzA h5
 have HFD:=zzA fd
 have kA:w.drew.cell? ⟨bw,0,none⟩=some (.pointer (some ⟨G.wb,0,none⟩))∧w.drew.cell? ⟨bl,0,none⟩=some (.slice (some ⟨ab,ao,none⟩) (l.length+1) sc)∧w.drew.cell? ⟨bb,0,none⟩=some v':=⟨h1.2,h2.2,h5.2⟩
 clear hd hc hs hr h1 h2 h3 h5 h6 hab hac fd ha
 by_cases hs1:sc=1
 ·rw [if_pos hs1] at hA2
  subst hs1
  obtain rfl:l=[]:=zzq (by omega)
  simp only [List.length_nil,zzw,Nat.sub_self] at *
  subst hA2
  go_enter Tryz.func86,Tryz.ntmps86
  go_wp2_with fail
  go_region_held_law (fun u=>u.cell? ⟨bw,0,none⟩=some (.pointer (some ⟨G.wb,0,none⟩))∧u.cell? ⟨bl,0,none⟩=some (.slice (some ⟨ab,ao,none⟩) 1 1)∧u.cell? ⟨bb,0,none⟩=some v') (first | with_reducible exact kA | with_reducible exact kB)
   (first | (go_at_call 49;(with_reducible refine HRW.out.mono ?_);rintro e w4 ⟨rfl,hx⟩;have HX:=zzA hx;have kB:=And.intro (((H1.out.1.fr HFD.out).cell hx.1 0).trans kA.1) (And.intro (((H2.out.1.fr HFD.out).cell hx.1 0).trans kA.2.1) (((H5.out.1.fr HFD.out).cell hx.1 0).trans kA.2.2));clear hx;simp only []))
  go_end0
  exact ⟨rfl,HFD.out.trans HX.out.1,HX.out.2⟩
 ·rw [if_neg hs1] at hA2
  have hs2:¬(1=sc):=fun e=>hs1 e.symm
  subst hA2
  go_enter Tryz.func86,Tryz.ntmps86
  go_wp2_with fail
  go_region_held_law (fun u=>u.cell? ⟨bw,0,none⟩=some (.pointer (some ⟨G.wb,0,none⟩))∧u.cell? ⟨bl,0,none⟩=some (.slice (some ⟨ab,ao,none⟩) (l.length+1) sc)∧u.cell? ⟨bb,0,none⟩=some v') (first | with_reducible exact kA | with_reducible exact kB)
   (first | (go_at_call 49;(with_reducible refine HRW.out.mono ?_);rintro e w4 ⟨rfl,hx⟩;have HX:=zzA hx;have kB:=And.intro (((H1.out.1.fr HFD.out).cell hx.1 0).trans kA.1) (And.intro (((H2.out.1.fr HFD.out).cell hx.1 0).trans kA.2.1) (((H5.out.1.fr HFD.out).cell hx.1 0).trans kA.2.2));clear hx;simp only []))
  go_end0
  exact ⟨rfl,HFD.out.trans HX.out.1,HX.out.2⟩
theorem grp_clo (G:Wk) (s s':Mean.St) (i:Int) (K:Mean.Kt) (pl:Nat) (nt:List Int) (h:G.chain s [.go K pl (nt.set (2*i+1).toNat pl)] s') (hNL:G.NL≤1099511627776):G.does s (.go (.grp i K) pl nt) s':=by
 obtain ⟨s1,hd,rfl⟩:=h
 intro hpl hlen w v N c hc hs hr hk
 obtain ⟨bb,bn,n,v',rfl,h1,h2,h3,h4,rfl,h5,h6⟩:=hk
 refine ⟨_,_,rfl,enters Tryz.func51 (by kernel_rfl) (by kernel_rfl),?_⟩
 obtain ⟨vf,vc,rfl,hgo⟩:=kv_func h2
 obtain ⟨ra,rc,sa,sc,hnd⟩:=hc.nodes n h4
 have fd:G.fr w w.drew:=hc.below (bdrewN (zzb _ _) 1)
 obtain ⟨j,hj⟩:∃ j:Nat,j=(2*n.ix+1).toNat:=⟨_,rfl⟩
 have hji:(2*n.ix+1)=(j:Int):=by omega
 rw [←hj] at hd
 have HNT:=zzA (noted_any N G.NL c j nt (pl:Int) w.drew hr.2.2.2.1 ((hr.fr fd).reads fun b hb=>hb.1) hNL (by omega))
 have HD:=zzA (hd hpl (by rw [zzu];exact hlen))
 have HC:=zzA (hc.fr fd)
 have HS:=zzA (hs.below (bdrewN (zzb w.heap.size w) 1) hc.mb hc.ob)
 have H1:=zzA (h1.fr fd)
 have H2:=zzA (Wk.kv_fr fd h2)
 have H3:=zzA (h3.fr fd)
 have HND:=zzA (hnd.fr fd)
 have HFD:=zzA fd
 have hw1:IntKind.i64.wrap (2*n.ix)=2*n.ix:=by rw [zzx];omega
 have hw2:IntKind.i64.wrap (2*n.ix+1)=(j:Int):=by rw [zzx];omega
 have kA:w.drew.cell? ⟨bb,0,none⟩=some (.func (Fn.func vf) #[] vc)∧w.drew.cell? ⟨bn,0,none⟩=some (.pointer (some ⟨n.ad,0,none⟩))∧w.drew.cell? ⟨n.ad,3,none⟩=some (.int .i64 n.ix):=⟨h1.2,h3.2,hnd.blk.cell 3⟩
 clear hd hc hs hr h1 h2 h3 hnd fd hj hji
 go_enter Tryz.func51,Tryz.ntmps51
 go_wp2_with fail
 go_region_held_law (fun u=>u.cell? ⟨bb,0,none⟩=some (.func (Fn.func vf) #[] vc)∧u.cell? ⟨bn,0,none⟩=some (.pointer (some ⟨n.ad,0,none⟩))∧u.cell? ⟨n.ad,3,none⟩=some (.int .i64 n.ix)) (first | with_reducible exact kA | with_reducible exact kB | with_reducible exact kC)
  (first
   | (go_at_call 50;(with_reducible refine HNT.out.mono ?_);rintro e w5 ⟨N',c',rfl,hb5,hr5⟩;have f5:=HC.out.below hb5;have HR5:=zzA (hr5.mono fun b hb=>HS.out.still_new HC.out hb5 hb.1 hb.2);have HC5:=zzA (HC.out.fr f5);have HS5:=zzA (HS.out.kept_below HC.out hb5);have H25:=zzA (Wk.kv_fr f5 H2.out);have kB:=And.intro ((H1.out.1.cell f5 0).trans kA.1) (And.intro ((H3.out.1.cell f5 0).trans kA.2.1) ((HND.out.still.cell f5 3).trans kA.2.2));have HF5:=zzA f5;clear hb5 hr5 f5;obtain ⟨f9,c9,he9,hg9,hcall⟩:=HD.out w5 _ N' c' HC5.out HS5.out HR5.out H25.out;cases he9;have HCALL:=zzA hcall;clear hcall hg9;simp only [])
   | ((with_reducible refine HCALL.out.mono ?_);rintro e w6 ⟨rfl,hx⟩;have HX:=zzA hx;have kC:=And.intro (((H1.out.1.fr HF5.out).cell hx.1 0).trans kB.1) (And.intro (((H3.out.1.fr HF5.out).cell hx.1 0).trans kB.2.1) (((HND.out.still.fr HF5.out).cell hx.1 3).trans kB.2.2));clear hx;simp only []))
 go_end0
 exact ⟨rfl,HFD.out.trans (HF5.out.trans HX.out.1),HX.out.2⟩
theorem choose_any (G:Wk) (s s':Mean.St) (n:Mean.Un) (pl:Nat) (nt:List Int) (again K:Mean.Kt) (h:G.chain s (Mean.choose n pl nt again K) s') (hn:n∈G.U) (hne:n.subs≠[]) (hU:Mean.Closed G.U) (hpl:pl≤G.nt) (hlen:nt.length=G.NL)
  (w:World) (va vk:Value) (N:Option Addr) (c:Nat) (hc:G.cst w) (hs:G.st w s) (hr:RdA w (G.still w) 1 N G.NL c (nt.map (Value.int .i64))) (ha:G.kv w again va) (hk:G.kv w K vk) :
  Calls Tryz.prog 52 #[.pointer (some ⟨G.wb,0,none⟩),.pointer (some ⟨n.ad,0,none⟩),.int .i64 (pl:Int),.slice N G.NL c,va,vk] w fun e w'=>e=.returned (.tuple #[])∧G.fr w w'∧G.st w' s':=by
 obtain ⟨vf,vc,rfl,hgo⟩:=kv_func hk
 obtain ⟨ra,rc,sa,sc,hnd⟩:=hc.nodes n hn
 obtain ⟨s0,l0,hsub⟩:∃ s0 l0,n.subs=s0 :: l0:=by
  cases e:n.subs with
  | nil=>exact absurd e hne
  | cons a l=>exact ⟨a,l,rfl⟩
 have hs0:s0∈G.U:=hU n hn s0 (by rw [hsub];exact zzH)
 have hlen0:n.subs.length=l0.length+1:=by rw [hsub];rfl
 have hrd:=hnd.subs
 rw [hlen0] at hrd
 obtain ⟨ab,ao,rfl,hab,hac⟩:=rd_pos hrd (by omega)
 have e0:(ptrs n.subs)[0]?=some (.pointer (some ⟨s0.ad,0,none⟩)):=by rw [hsub];rfl
 have c0:=hac 0 _ e0
 rw [Nat.add_zero] at c0
 have n4:w.cell? ⟨n.ad,4,none⟩=some (.bool n.lz):=hnd.blk.cell 4
 have n5:w.cell? ⟨n.ad,5,none⟩=some (.slice (some ⟨ab,ao,none⟩) (l0.length+1) sc):=by have:=hnd.blk.cell 5;rw [hlen0] at this;exact this
 have hgt:(0:Int) < ((l0.length:Int)+1):=by omega
 unfold Mean.choose at h
 rw [hsub] at h
 simp only [] at h
 have HST:=zzA hnd.still
 have HAB:=zzA hab
 have HC:=zzA hc
 have HR:=zzA hr
 have HA:=zzA ha
 have HK:=zzA hk
 cases hz:n.lz with
 | true =>
  rw [hz] at n4
  rw [hz,if_pos rfl] at h
  obtain ⟨s1,h1,s2,h2,rfl⟩:=h
  obtain ⟨f9,c9,he9,-,hcall⟩:=h1 hpl hlen w _ N c hc hs hr hk
  cases he9
  have HCALL:=zzA hcall
  have HBEG:=zzA (h2 hs0 hpl hlen)
  clear h1 h2 hcall hc hs hr ha hk hnd hab hac hrd e0 hsub hne hU
  go_enter Tryz.func52,Tryz.ntmps52
  go_wp2_with fail
  refine HCALL.out.mono ?_
  rintro e w4 ⟨rfl,hf4,hs4⟩
  have HF4:=zzA hf4
  have HB:=zzA (HBEG.out w4 va N c (HC.out.fr hf4) hs4 (HR.out.fr hf4) (Wk.kv_fr hf4 HA.out))
  have m4:=(HST.out.cell hf4 4).trans n4
  have m5:=(HST.out.cell hf4 5).trans n5
  have m0:=(HAB.out.cell hf4 ao).trans c0
  clear hf4 hs4 n4 n5 c0 HBEG
  simp only []
  go_wp2_with fail
  refine HB.out.mono ?_
  rintro e w5 ⟨rfl,hf5,hs5⟩
  have k4:=((HST.out.fr HF4.out).cell hf5 4).trans m4
  have HF5:=zzA hf5
  have HS5:=zzA hs5
  clear hf5 hs5 m4 m5 m0
  simp only []
  go_wp2_with fail
  go_end0
  exact ⟨rfl,HF4.out.trans HF5.out,HS5.out⟩
 | false =>
  rw [hz] at n4
  rw [hz,if_neg (by simp)] at h
  obtain ⟨s1,h1,s2,h2,rfl⟩:=h
  have HBEG:=zzA (h1 hs0 hpl hlen w va N c hc hs hr ha)
  have HGO:=zzA (h2 hpl hlen)
  clear h1 h2 hc hs hr ha hk hnd hab hac hrd e0 hsub hne hU
  go_enter Tryz.func52,Tryz.ntmps52
  go_wp2_with fail
  refine HBEG.out.mono ?_
  rintro e w4 ⟨rfl,hf4,hs4⟩
  have HF4:=zzA hf4
  obtain ⟨f9,c9,he9,-,hcall⟩:=HGO.out w4 _ N c (HC.out.fr hf4) hs4 (HR.out.fr hf4) (Wk.kv_fr hf4 HK.out)
  cases he9
  have HCALL:=zzA hcall
  have m4:=(HST.out.cell hf4 4).trans n4
  clear hf4 hs4 n4 n5 c0 hcall HGO
  simp only []
  go_wp2_with fail
  refine HCALL.out.mono ?_
  rintro e w5 ⟨rfl,hf5,hs5⟩
  have HF5:=zzA hf5
  have HS5:=zzA hs5
  clear hf5 hs5 m4
  simp only []
  go_wp2_with fail
  go_end0
  exact ⟨rfl,HF4.out.trans HF5.out,HS5.out⟩
theorem decide_any (G:Wk) (hwf:G.wf) (s s':Mean.St) (n:Mean.Un) (pl:Nat) (nt:List Int) (K:Mean.Kt) (hone:n.subs≠[]) (hb:s.calls≤4611686018427387904) (h:G.chain (s.mark (n.ad,pl,true)) (if s.met (n.ad,pl,true)=0 then Mean.choose n pl nt (.dec n K) K else []) s'):G.does s (.dcd n pl nt K) s':=by
 intro hn hpl hlen w v N c hc hs hr hk
 obtain ⟨vf,vc,rfl,hgo⟩:=kv_func hk
 obtain ⟨f3,hs3,x1,x2,x3⟩:=boxes3 hc hs 63 69 104 (.pointer (some ⟨G.wb,0,none⟩)) (.pointer (some ⟨n.ad,0,none⟩)) (.func (Fn.func vf) #[] vc)
 have HF3:=zzA f3
 have HC3:=zzA (hc.fr f3)
 have HR3:=zzA (hr.fr f3)
 have HK3:=zzA (Wk.kv_fr f3 hk)
 have HON:=zzA (once_any G _ s (n.ad,pl,true) (hc.fr f3) hs3 ⟨n,hn,rfl⟩ hb)
 have X1:=zzA x1
 have X2:=zzA x2
 have X3:=zzA x3
 have c1:=x1.2
 have c2:=x2.2
 have c3:=x3.2
 have HH:=zzA h
 clear f3 hs3 x1 x2 x3 hc hs hr hk h
 generalize hw3:((w.alloc (.cells #[.pointer (some ⟨G.wb,0,none⟩)] 63)).alloc (.cells #[.pointer (some ⟨n.ad,0,none⟩)] 69)).alloc (.cells #[.func (Fn.func vf) #[] vc] 104)=w3 at *
 unfold kv at HON
 go_enter Tryz.func53,Tryz.ntmps53
 go_wp2_with fail
 refine HON.out.mono ?_
 rintro e w4 ⟨rfl,hf4,hs4⟩
 have HF4:=zzA hf4
 have HS4:=zzA hs4
 have m1:=(X1.out.fr hf4).2
 have m2:=(X2.out.fr hf4).2
 have m3:=(X3.out.fr hf4).2
 have HC4:=zzA (HC3.out.fr hf4)
 have HR4:=zzA (HR3.out.fr hf4)
 have HK4:=zzA (Wk.kv_fr hf4 HK3.out)
 have Y1:=zzA (X1.out.fr hf4)
 have Y2:=zzA (X2.out.fr hf4)
 have Y3:=zzA (X3.out.fr hf4)
 clear hf4 hs4 c1 c2 c3
 by_cases hm:s.met (n.ad,pl,true)=0
 ·have hmd:decide (s.met (n.ad,pl,true)=0)=true:=by simpa using hm
  have hh:=HH.out
  rw [if_pos hm] at hh
  rw [hmd]
  have hkv:G.kv w4 (.dec n K) (.func (Fn.func 87) #[] #[.pointer (some ⟨w.heap.size,0,none⟩),.pointer (some ⟨w.heap.size+1,0,none⟩),.pointer (some ⟨w.heap.size+1+1,0,none⟩)]) :=
   ⟨_,_,_,_,_,.inr rfl,rfl,Y1.out,Y2.out,hn,Y3.out,HK4.out⟩
  have HCH:=zzA (choose_any G _ s' n pl nt (.dec n K) K hh hn hone hwf.closed hpl hlen w4 _ _ N c HC4.out HS4.out HR4.out hkv HK4.out)
  clear hh hkv hmd hm
  simp only []
  go_wp2_with fail
  refine HCH.out.mono ?_
  rintro e w5 ⟨rfl,hf5,hs5⟩
  have HF5:=zzA hf5
  have HS5:=zzA hs5
  clear hf5 hs5
  simp only []
  go_wp2_with fail
  go_end0
  exact ⟨rfl,HF3.out.trans (HF4.out.trans HF5.out),HS5.out⟩
 ·have hmd:decide (s.met (n.ad,pl,true)=0)=false:=by simpa using hm
  have hh:=HH.out
  rw [if_neg hm] at hh
  rw [hmd]
  obtain rfl:s'=s.mark (n.ad,pl,true):=hh
  simp only []
  go_wp2_with fail
  go_end0
  exact ⟨rfl,HF3.out.trans HF4.out,HS4.out⟩
theorem beg_met (G:Wk) (hwf:G.wf) (s s':Mean.St) (n:Mean.Un) (pl:Nat) (nt:List Int) (K:Mean.Kt) (hm:s.met (n.ad,pl,false)≠0) (h:True) (hb:s.calls≤4611686018427387904):G.does s (.beg n pl nt K) (s.mark (n.ad,pl,false)):=by
 intro hn hpl hlen w v N c hc hs hr hk
 obtain ⟨vf,vc,rfl,hgo⟩:=kv_func hk
 obtain ⟨f3,hs3,x1,x2,x3⟩:=boxes3 hc hs 63 69 104 (.pointer (some ⟨G.wb,0,none⟩)) (.pointer (some ⟨n.ad,0,none⟩)) (.func (Fn.func vf) #[] vc)
 have HF3:=zzA f3
 have HC3:=zzA (hc.fr f3)
 have HR3:=zzA (hr.fr f3)
 have HK3:=zzA (Wk.kv_fr f3 hk)
 have HON:=zzA (once_any G _ s (n.ad,pl,false) (hc.fr f3) hs3 ⟨n,hn,rfl⟩ hb)
 have X1:=zzA x1
 have X2:=zzA x2
 have X3:=zzA x3
 have c1:=x1.2
 have c2:=x2.2
 have c3:=x3.2
 have HH:=zzA h
 have HWF:=zzA hwf
 clear f3 hs3 x1 x2 x3 hc hs hr hk h hwf
 generalize hw3:((w.alloc (.cells #[.pointer (some ⟨G.wb,0,none⟩)] 63)).alloc (.cells #[.pointer (some ⟨n.ad,0,none⟩)] 69)).alloc (.cells #[.func (Fn.func vf) #[] vc] 104)=w3 at *
 unfold kv at HON
 generalize hq1:w.heap.size=q1 at *
 go_enter Tryz.func28,Tryz.ntmps28
 go_wp2_with fail
 refine HON.out.mono ?_
 rintro e w4 ⟨rfl,hf4,hs4⟩
 have HF4:=zzA hf4
 have HS4:=zzA hs4
 have Y1:=zzA (X1.out.fr hf4)
 have Y2:=zzA (X2.out.fr hf4)
 have Y3:=zzA (X3.out.fr hf4)
 have HC4:=zzA (HC3.out.fr hf4)
 have HR4:=zzA (HR3.out.fr hf4)
 have HK4:=zzA (Wk.kv_fr hf4 HK3.out)
 have m1:=Y1.out.2
 have m2:=Y2.out.2
 have m3:=Y3.out.2
 obtain ⟨ra,rc,sa,sc,hnd⟩:=HC4.out.nodes n hn
 have HND:=zzA hnd
 have n0:w4.cell? ⟨n.ad,0,none⟩=some (.int .i64 n.kind):=hnd.blk.cell 0
 clear hf4 hs4 hnd c1 c2 c3 HON hw3
 have hmd:decide (s.met (n.ad,pl,false)=0)=false:=by simpa using hm
 rw [hmd]
 simp only []
 go_wp2_with fail
 refine zzm (results_none rfl _ _ _) rfl ?_
 exact ⟨rfl,HF3.out.trans HF4.out,HS4.out⟩
theorem beg_1 (G:Wk) (hwf:G.wf) (s s':Mean.St) (n:Mean.Un) (pl:Nat) (nt:List Int) (K:Mean.Kt) (hkind:n.kind=1) (hm:s.met (n.ad,pl,false)=0) (h:G.chain (s.mark (n.ad,pl,false)) (Mean.first G.t n pl nt K) s') (hb:s.calls≤4611686018427387904):G.does s (.beg n pl nt K) s':=by
 intro hn hpl hlen w v N c hc hs hr hk
 obtain ⟨vf,vc,rfl,hgo⟩:=kv_func hk
 obtain ⟨f3,hs3,x1,x2,x3⟩:=boxes3 hc hs 63 69 104 (.pointer (some ⟨G.wb,0,none⟩)) (.pointer (some ⟨n.ad,0,none⟩)) (.func (Fn.func vf) #[] vc)
 have HF3:=zzA f3
 have HC3:=zzA (hc.fr f3)
 have HR3:=zzA (hr.fr f3)
 have HK3:=zzA (Wk.kv_fr f3 hk)
 have HON:=zzA (once_any G _ s (n.ad,pl,false) (hc.fr f3) hs3 ⟨n,hn,rfl⟩ hb)
 have X1:=zzA x1
 have X2:=zzA x2
 have X3:=zzA x3
 have c1:=x1.2
 have c2:=x2.2
 have c3:=x3.2
 have HH:=zzA h
 have HWF:=zzA hwf
 clear f3 hs3 x1 x2 x3 hc hs hr hk h hwf
 generalize hw3:((w.alloc (.cells #[.pointer (some ⟨G.wb,0,none⟩)] 63)).alloc (.cells #[.pointer (some ⟨n.ad,0,none⟩)] 69)).alloc (.cells #[.func (Fn.func vf) #[] vc] 104)=w3 at *
 unfold kv at HON
 generalize hq1:w.heap.size=q1 at *
 go_enter Tryz.func28,Tryz.ntmps28
 go_wp2_with fail
 refine HON.out.mono ?_
 rintro e w4 ⟨rfl,hf4,hs4⟩
 have HF4:=zzA hf4
 have HS4:=zzA hs4
 have Y1:=zzA (X1.out.fr hf4)
 have Y2:=zzA (X2.out.fr hf4)
 have Y3:=zzA (X3.out.fr hf4)
 have HC4:=zzA (HC3.out.fr hf4)
 have HR4:=zzA (HR3.out.fr hf4)
 have HK4:=zzA (Wk.kv_fr hf4 HK3.out)
 have m1:=Y1.out.2
 have m2:=Y2.out.2
 have m3:=Y3.out.2
 obtain ⟨ra,rc,sa,sc,hnd⟩:=HC4.out.nodes n hn
 have HND:=zzA hnd
 have n0:w4.cell? ⟨n.ad,0,none⟩=some (.int .i64 n.kind):=hnd.blk.cell 0
 clear hf4 hs4 hnd c1 c2 c3 HON hw3
 rw [hkind] at n0
 have hmd:decide (s.met (n.ad,pl,false)=0)=true:=by simpa using hm
 rw [hmd]
 have hh:=HH.out
 unfold Mean.first at hh
 simp only [hkind] at hh
 clear hmd HH
 simp only [if_true] at hh
 obtain ⟨s1,h1,rfl⟩:=hh
 obtain ⟨f9,c9,he9,-,hcall⟩:=h1 hpl hlen w4 _ N c HC4.out HS4.out HR4.out HK4.out
 cases he9
 have HCALL:=zzA hcall
 clear hcall h1
 simp only []
 go_wp2_with fail
 refine HCALL.out.mono ?_
 rintro e w5 ⟨rfl,hx⟩
 have HX:=zzA hx
 clear hx
 simp only []
 go_wp2_with fail
 go_end0
 exact ⟨rfl,HF3.out.trans (HF4.out.trans HX.out.1),HX.out.2⟩
theorem beg_2 (G:Wk) (hwf:G.wf) (s s':Mean.St) (n:Mean.Un) (pl:Nat) (nt:List Int) (K:Mean.Kt) (hkind:n.kind=2) (hm:s.met (n.ad,pl,false)=0) (h:G.chain (s.mark (n.ad,pl,false)) (Mean.first G.t n pl nt K) s') (hb:s.calls≤4611686018427387904):G.does s (.beg n pl nt K) s':=by
 intro hn hpl hlen w v N c hc hs hr hk
 obtain ⟨vf,vc,rfl,hgo⟩:=kv_func hk
 obtain ⟨f3,hs3,x1,x2,x3⟩:=boxes3 hc hs 63 69 104 (.pointer (some ⟨G.wb,0,none⟩)) (.pointer (some ⟨n.ad,0,none⟩)) (.func (Fn.func vf) #[] vc)
 have HF3:=zzA f3
 have HC3:=zzA (hc.fr f3)
 have HR3:=zzA (hr.fr f3)
 have HK3:=zzA (Wk.kv_fr f3 hk)
 have HON:=zzA (once_any G _ s (n.ad,pl,false) (hc.fr f3) hs3 ⟨n,hn,rfl⟩ hb)
 have X1:=zzA x1
 have X2:=zzA x2
 have X3:=zzA x3
 have c1:=x1.2
 have c2:=x2.2
 have c3:=x3.2
 have HH:=zzA h
 have HWF:=zzA hwf
 clear f3 hs3 x1 x2 x3 hc hs hr hk h hwf
 generalize hw3:((w.alloc (.cells #[.pointer (some ⟨G.wb,0,none⟩)] 63)).alloc (.cells #[.pointer (some ⟨n.ad,0,none⟩)] 69)).alloc (.cells #[.func (Fn.func vf) #[] vc] 104)=w3 at *
 unfold kv at HON
 generalize hq1:w.heap.size=q1 at *
 go_enter Tryz.func28,Tryz.ntmps28
 go_wp2_with fail
 refine HON.out.mono ?_
 rintro e w4 ⟨rfl,hf4,hs4⟩
 have HF4:=zzA hf4
 have HS4:=zzA hs4
 have Y1:=zzA (X1.out.fr hf4)
 have Y2:=zzA (X2.out.fr hf4)
 have Y3:=zzA (X3.out.fr hf4)
 have HC4:=zzA (HC3.out.fr hf4)
 have HR4:=zzA (HR3.out.fr hf4)
 have HK4:=zzA (Wk.kv_fr hf4 HK3.out)
 have m1:=Y1.out.2
 have m2:=Y2.out.2
 have m3:=Y3.out.2
 obtain ⟨ra,rc,sa,sc,hnd⟩:=HC4.out.nodes n hn
 have HND:=zzA hnd
 have n0:w4.cell? ⟨n.ad,0,none⟩=some (.int .i64 n.kind):=hnd.blk.cell 0
 clear hf4 hs4 hnd c1 c2 c3 HON hw3
 rw [hkind] at n0
 have hmd:decide (s.met (n.ad,pl,false)=0)=true:=by simpa using hm
 rw [hmd]
 have hh:=HH.out
 unfold Mean.first at hh
 simp only [hkind] at hh
 clear hmd HH
 simp only [reduceIte,Int.reduceNeg,Int.reduceEq] at hh
 have fd:G.fr w4 w4.drew:=HC4.out.below (bdrewN (zzb _ _) 1)
 have HFD:=zzA fd
 have HCD:=zzA (HC4.out.fr fd)
 have HSD:=zzA (HS4.out.kept_below HC4.out (bdrewN (zzb _ _) 1))
 have HRD:=zzA (HR4.out.fr fd)
 have HKD:=zzA (Wk.kv_fr fd HK4.out)
 have Z1:=zzA (Y1.out.fr fd)
 have Z2:=zzA (Y2.out.fr fd)
 have Z3:=zzA (Y3.out.fr fd)
 have HNDD:=zzA (HND.out.fr fd)
 clear fd
 by_cases hlt:pl < G.nt
 ·have hlti:(pl:Int) < (G.nt:Int):=by omega
  have hlti2:decide ((pl:Int) < (G.nt:Int))=true:=decide_eq_true hlti
  have hltt:pl < G.t.length:=by rw [HWF.out.len];exact hlt
  obtain ⟨tb,to,hAt,htb,htc⟩:=rd_pos HCD.out.text (by omega)
  have HTB:=zzA htb
  have t0:w4.drew.cell? ⟨tb,to+pl,none⟩=some (.int .i64 (G.t.getD pl 0)):=htc pl _ (by rw [zza,zzJ hltt,zzf,zzJ hltt];rfl)
  have t1:w4.drew.cell? ⟨G.wb,0,none⟩=some (.slice (some ⟨tb,to,none⟩) G.nt G.ct):=by rw [←hAt];exact HCD.out.wb.2.cell 0
  have HHS:=zzA (has_any ra n.rng.length rc (G.t.getD pl 0) n.rng w4.drew (HNDD.out.rng.reads fun b hb=>hb.1))
  rw [HWF.out.cls n hn hkind,Bool.true_and] at HHS
  obtain ⟨bq,hbq⟩:∃ b,b=memB n.rng (G.t.getD pl 0):=⟨_,rfl⟩
  rw [←hbq] at HHS hh
  clear hbq
  generalize G.t.getD pl 0=rv at *
  have hshort:=HWF.out.short
  have hw1:IntKind.i64.wrap ((pl:Int)+1)=((pl+1:Nat):Int):=by rw [zzx];omega
  have kA:w4.drew.cell? ⟨q1,0,none⟩=some (.pointer (some ⟨G.wb,0,none⟩))∧w4.drew.cell? ⟨q1+1,0,none⟩=some (.pointer (some ⟨n.ad,0,none⟩))∧w4.drew.cell? ⟨n.ad,1,none⟩=some (.slice ra n.rng.length rc)∧w4.drew.cell? ⟨G.wb,0,none⟩=some (.slice (some ⟨tb,to,none⟩) G.nt G.ct)∧w4.drew.cell? ⟨tb,to+pl,none⟩=some (.int .i64 rv)∧w4.drew.cell? ⟨q1+1+1,0,none⟩=some (.func (Fn.func vf) #[] vc):=And.intro (Z1.out.2) (And.intro (Z2.out.2) (And.intro (HNDD.out.blk.cell 1) (And.intro (t1) (And.intro (t0) (Z3.out.2)))))
  clear htb htc t0 t1 hAt
  simp only []
  go_wp2_with fail
  go_region_held_law (fun u=>u.cell? ⟨q1,0,none⟩=some (.pointer (some ⟨G.wb,0,none⟩))∧u.cell? ⟨q1+1,0,none⟩=some (.pointer (some ⟨n.ad,0,none⟩))∧u.cell? ⟨n.ad,1,none⟩=some (.slice ra n.rng.length rc)∧u.cell? ⟨G.wb,0,none⟩=some (.slice (some ⟨tb,to,none⟩) G.nt G.ct)∧u.cell? ⟨tb,to+pl,none⟩=some (.int .i64 rv)∧u.cell? ⟨q1+1+1,0,none⟩=some (.func (Fn.func vf) #[] vc)) (first | with_reducible exact kA | with_reducible exact kB)
   (first | (go_at_call 37;(with_reducible refine HHS.out.mono ?_);rintro e w5 ⟨rfl,hb5⟩;have f5:=HCD.out.below hb5;have kB:=And.intro ((Z1.out.1.cell f5 (0)).trans kA.1) (And.intro ((Z2.out.1.cell f5 (0)).trans kA.2.1) (And.intro ((HNDD.out.still.cell f5 (1)).trans kA.2.2.1) (And.intro ((HCD.out.wb.1.cell f5 (0)).trans kA.2.2.2.1) (And.intro ((HTB.out.cell f5 (to+pl)).trans kA.2.2.2.2.1) ((Z3.out.1.cell f5 (0)).trans kA.2.2.2.2.2)))));have HB5:=zzA hb5;clear hb5 f5;simp only []))
  have HF5:=zzA (HCD.out.below HB5.out)
  have HS5:=zzA (HSD.out.kept_below HCD.out HB5.out)
  cases bq with
  | true =>
   rw [if_pos ⟨hltt,rfl⟩] at hh
   obtain ⟨s1,h1,rfl⟩:=hh
   obtain ⟨f9,c9,he9,-,hcall⟩:=h1 (by omega) hlen w5 _ N c (HCD.out.fr HF5.out) HS5.out (HRD.out.fr HF5.out) (Wk.kv_fr HF5.out HKD.out)
   cases he9
   have HCALL:=zzA hcall
   have d3:=kB.2.2.2.2.2
   clear hcall h1 kA kB
   go_wp2_with fail
   refine HCALL.out.mono ?_
   rintro e w6 ⟨rfl,hx⟩
   have HX:=zzA hx
   clear hx
   simp only []
   go_wp2_with fail
   go_end0
   exact ⟨rfl,HF3.out.trans (HF4.out.trans (HFD.out.trans (HF5.out.trans HX.out.1))),HX.out.2⟩
  | false =>
   rw [if_neg (by simp)] at hh
   obtain rfl:s'=_:=hh
   clear kA kB
   go_wp2_with fail
   go_end0
   exact ⟨rfl,HF3.out.trans (HF4.out.trans (HFD.out.trans HF5.out)),HS5.out⟩
 ·have hlti:¬((pl:Int) < (G.nt:Int)):=by omega
  have hlti2:decide ((pl:Int) < (G.nt:Int))=false:=decide_eq_false hlti
  rw [if_neg (by rw [HWF.out.len];exact fun hx=>hlt hx.1)] at hh
  obtain rfl:s'=_:=hh
  have z1:=Z1.out.2
  have t1:w4.drew.cell? ⟨G.wb,0,none⟩=some (.slice G.At G.nt G.ct):=HCD.out.wb.2.cell 0
  simp only []
  go_wp2_with fail
  go_region
  go_wp2_with fail
  go_end0
  exact ⟨rfl,HF3.out.trans (HF4.out.trans HFD.out),HSD.out⟩
theorem beg_4 (G:Wk) (hwf:G.wf) (s s':Mean.St) (n:Mean.Un) (pl:Nat) (nt:List Int) (K:Mean.Kt) (hkind:n.kind=4) (hm:s.met (n.ad,pl,false)=0) (h:G.chain (s.mark (n.ad,pl,false)) (Mean.first G.t n pl nt K) s') (hb:s.calls≤4611686018427387904):G.does s (.beg n pl nt K) s':=by
 intro hn hpl hlen w v N c hc hs hr hk
 obtain ⟨vf,vc,rfl,hgo⟩:=kv_func hk
 obtain ⟨f3,hs3,x1,x2,x3⟩:=boxes3 hc hs 63 69 104 (.pointer (some ⟨G.wb,0,none⟩)) (.pointer (some ⟨n.ad,0,none⟩)) (.func (Fn.func vf) #[] vc)
 have HF3:=zzA f3
 have HC3:=zzA (hc.fr f3)
 have HR3:=zzA (hr.fr f3)
 have HK3:=zzA (Wk.kv_fr f3 hk)
 have HON:=zzA (once_any G _ s (n.ad,pl,false) (hc.fr f3) hs3 ⟨n,hn,rfl⟩ hb)
 have X1:=zzA x1
 have X2:=zzA x2
 have X3:=zzA x3
 have c1:=x1.2
 have c2:=x2.2
 have c3:=x3.2
 have HH:=zzA h
 have HWF:=zzA hwf
 clear f3 hs3 x1 x2 x3 hc hs hr hk h hwf
 generalize hw3:((w.alloc (.cells #[.pointer (some ⟨G.wb,0,none⟩)] 63)).alloc (.cells #[.pointer (some ⟨n.ad,0,none⟩)] 69)).alloc (.cells #[.func (Fn.func vf) #[] vc] 104)=w3 at *
 unfold kv at HON
 generalize hq1:w.heap.size=q1 at *
 go_enter Tryz.func28,Tryz.ntmps28
 go_wp2_with fail
 refine HON.out.mono ?_
 rintro e w4 ⟨rfl,hf4,hs4⟩
 have HF4:=zzA hf4
 have HS4:=zzA hs4
 have Y1:=zzA (X1.out.fr hf4)
 have Y2:=zzA (X2.out.fr hf4)
 have Y3:=zzA (X3.out.fr hf4)
 have HC4:=zzA (HC3.out.fr hf4)
 have HR4:=zzA (HR3.out.fr hf4)
 have HK4:=zzA (Wk.kv_fr hf4 HK3.out)
 have m1:=Y1.out.2
 have m2:=Y2.out.2
 have m3:=Y3.out.2
 obtain ⟨ra,rc,sa,sc,hnd⟩:=HC4.out.nodes n hn
 have HND:=zzA hnd
 have n0:w4.cell? ⟨n.ad,0,none⟩=some (.int .i64 n.kind):=hnd.blk.cell 0
 clear hf4 hs4 hnd c1 c2 c3 HON hw3
 rw [hkind] at n0
 have hmd:decide (s.met (n.ad,pl,false)=0)=true:=by simpa using hm
 rw [hmd]
 have hh:=HH.out
 unfold Mean.first at hh
 simp only [hkind] at hh
 clear hmd HH
 simp only [reduceIte,Int.reduceNeg,Int.reduceEq] at hh
 obtain ⟨s1,h1,rfl⟩:=hh
 have fd:G.fr w4 w4.drew:=HC4.out.below (bdrewN (zzb _ _) 1)
 have HFD:=zzA fd
 have HCD:=zzA (HC4.out.fr fd)
 have HSD:=zzA (HS4.out.kept_below HC4.out (bdrewN (zzb _ _) 1))
 have HRD:=zzA (HR4.out.fr fd)
 have HKD:=zzA (Wk.kv_fr fd HK4.out)
 have Z1:=zzA (Y1.out.fr fd)
 have Z2:=zzA (Y2.out.fr fd)
 have Z3:=zzA (Y3.out.fr fd)
 have HNDD:=zzA (HND.out.fr fd)
 clear fd
 have HRW:=zzA (row_any G _ s' n.subs K pl nt h1 (HWF.out.closed n hn) hpl hlen w4.drew _ N sa c sc HCD.out HSD.out HRD.out HKD.out HNDD.out.subs)
 have kA:w4.drew.cell? ⟨q1,0,none⟩=some (.pointer (some ⟨G.wb,0,none⟩))∧w4.drew.cell? ⟨q1+1,0,none⟩=some (.pointer (some ⟨n.ad,0,none⟩))∧w4.drew.cell? ⟨n.ad,5,none⟩=some (.slice sa n.subs.length sc)∧w4.drew.cell? ⟨q1+1+1,0,none⟩=some (.func (Fn.func vf) #[] vc):=And.intro (Z1.out.2) (And.intro (Z2.out.2) (And.intro (HNDD.out.blk.cell 5) (Z3.out.2)))
 clear h1
 simp only []
 go_wp2_with fail
 go_region_held_law (fun u=>u.cell? ⟨q1,0,none⟩=some (.pointer (some ⟨G.wb,0,none⟩))∧u.cell? ⟨q1+1,0,none⟩=some (.pointer (some ⟨n.ad,0,none⟩))∧u.cell? ⟨n.ad,5,none⟩=some (.slice sa n.subs.length sc)∧u.cell? ⟨q1+1+1,0,none⟩=some (.func (Fn.func vf) #[] vc)) (first | with_reducible exact kA | with_reducible exact kB)
  (first | (go_at_call 49;(with_reducible refine HRW.out.mono ?_);rintro e w5 ⟨rfl,hx⟩;have HX:=zzA hx;have kB:=And.intro ((Z1.out.1.cell hx.1 (0)).trans kA.1) (And.intro ((Z2.out.1.cell hx.1 (0)).trans kA.2.1) (And.intro ((HNDD.out.still.cell hx.1 (5)).trans kA.2.2.1) ((Z3.out.1.cell hx.1 (0)).trans kA.2.2.2)));clear hx;simp only []))
 go_wp2_with fail
 go_end0
 exact ⟨rfl,HF3.out.trans (HF4.out.trans (HFD.out.trans HX.out.1)),HX.out.2⟩
theorem beg_5 (G:Wk) (hwf:G.wf) (s s':Mean.St) (n:Mean.Un) (pl:Nat) (nt:List Int) (K:Mean.Kt) (hkind:n.kind=5) (hm:s.met (n.ad,pl,false)=0) (h:G.chain (s.mark (n.ad,pl,false)) (Mean.first G.t n pl nt K) s') (hb:s.calls≤4611686018427387904):G.does s (.beg n pl nt K) s':=by
 intro hn hpl hlen w v N c hc hs hr hk
 obtain ⟨vf,vc,rfl,hgo⟩:=kv_func hk
 obtain ⟨f3,hs3,x1,x2,x3⟩:=boxes3 hc hs 63 69 104 (.pointer (some ⟨G.wb,0,none⟩)) (.pointer (some ⟨n.ad,0,none⟩)) (.func (Fn.func vf) #[] vc)
 have HF3:=zzA f3
 have HC3:=zzA (hc.fr f3)
 have HR3:=zzA (hr.fr f3)
 have HK3:=zzA (Wk.kv_fr f3 hk)
 have HON:=zzA (once_any G _ s (n.ad,pl,false) (hc.fr f3) hs3 ⟨n,hn,rfl⟩ hb)
 have X1:=zzA x1
 have X2:=zzA x2
 have X3:=zzA x3
 have c1:=x1.2
 have c2:=x2.2
 have c3:=x3.2
 have HH:=zzA h
 have HWF:=zzA hwf
 clear f3 hs3 x1 x2 x3 hc hs hr hk h hwf
 generalize hw3:((w.alloc (.cells #[.pointer (some ⟨G.wb,0,none⟩)] 63)).alloc (.cells #[.pointer (some ⟨n.ad,0,none⟩)] 69)).alloc (.cells #[.func (Fn.func vf) #[] vc] 104)=w3 at *
 unfold kv at HON
 generalize hq1:w.heap.size=q1 at *
 go_enter Tryz.func28,Tryz.ntmps28
 go_wp2_with fail
 refine HON.out.mono ?_
 rintro e w4 ⟨rfl,hf4,hs4⟩
 have HF4:=zzA hf4
 have HS4:=zzA hs4
 have Y1:=zzA (X1.out.fr hf4)
 have Y2:=zzA (X2.out.fr hf4)
 have Y3:=zzA (X3.out.fr hf4)
 have HC4:=zzA (HC3.out.fr hf4)
 have HR4:=zzA (HR3.out.fr hf4)
 have HK4:=zzA (Wk.kv_fr hf4 HK3.out)
 have m1:=Y1.out.2
 have m2:=Y2.out.2
 have m3:=Y3.out.2
 obtain ⟨ra,rc,sa,sc,hnd⟩:=HC4.out.nodes n hn
 have HND:=zzA hnd
 have n0:w4.cell? ⟨n.ad,0,none⟩=some (.int .i64 n.kind):=hnd.blk.cell 0
 clear hf4 hs4 hnd c1 c2 c3 HON hw3
 rw [hkind] at n0
 have hmd:decide (s.met (n.ad,pl,false)=0)=true:=by simpa using hm
 rw [hmd]
 have hh:=HH.out
 unfold Mean.first at hh
 simp only [hkind] at hh
 clear hmd HH
 simp only [reduceIte,Int.reduceNeg,Int.reduceEq] at hh
 have n5:w4.cell? ⟨n.ad,5,none⟩=some (.slice sa n.subs.length sc):=HND.out.blk.cell 5
 have HHH:=zzA hh
 have hfew:=HWF.out.few n hn
 clear hh
 simp only []
 go_wp2_with fail
 go_loopw [91] (fun iv W=>∃ i:Nat,i≤n.subs.length∧iv=.int .i64 (i:Int)∧∃ si,G.fr w4 W∧G.st W si∧G.chain si ((n.subs.drop i).map fun x=>Mean.Task.beg x pl nt K) s') (fun iv _=>n.subs.length - (intOf iv).toNat)
 case atStart=>exact ⟨0,zzZ _,rfl,_,HC4.out.refl,HS4.out,by rw [List.drop_zero];exact HHH.out⟩
 case round =>
  obtain ⟨i,hi,rfl,si,hfi,hsi,hch⟩:=hrel
  by_cases hlt:i < n.subs.length
  ·have hlti:(i:Int) < (n.subs.length:Int):=by omega
   rw [List.drop_eq_getElem_cons hlt,zzS] at hch
   obtain ⟨s1,h1,h2⟩:=hch
   obtain ⟨ab,ao,hsa,hab,hac⟩:=rd_pos HND.out.subs (by omega)
   subst hsa
   have hsu:n.subs[i]∈G.U:=HWF.out.closed n hn _ (List.getElem_mem hlt)
   have r0:wr.cell? ⟨ab,ao+i,none⟩=some (.pointer (some ⟨(n.subs[i]).ad,0,none⟩)):=(hab.cell hfi (ao+i)).trans (hac i _ (by unfold ptrs;rw [zza,zzJ hlt];rfl))
   have r1:=(Y1.out.fr hfi).2
   have r3:=(Y3.out.fr hfi).2
   have HBG:=zzA (h1 hsu hpl hlen wr _ N c (HC4.out.fr hfi) hsi (HR4.out.fr hfi) (Wk.kv_fr hfi HK4.out))
   have HFI:=zzA hfi
   have HH2:=zzA h2
   have hwi:IntKind.i64.wrap ((i:Int)+1)=((i+1:Nat):Int):=by rw [zzx];omega
   generalize (n.subs[i]).ad=sad at *
   clear h1 h2 hfi hsi hab hac m1 m2 m3 n0 n5
   go_wp2_with fail
   refine HBG.out.mono ?_
   rintro e w5 ⟨rfl,hx⟩
   have HX:=zzA hx
   clear hx
   simp only []
   go_wp2_with fail
   go_roundw
   case rel=>exact ⟨i+1,hlt,by go_num,_,HFI.out.trans HX.out.1,HX.out.2,HH2.out⟩
   case measure=>simp [intOf];omega
  ·have hlti:¬((i:Int) < (n.subs.length:Int)):=by omega
   rw [List.drop_of_length_le (by omega)] at hch
   obtain rfl:s'=si:=hch
   have HFI:=zzA hfi
   have HSI:=zzA hsi
   clear hfi hsi m1 m2 m3 n0 n5
   go_wp2_with fail
   go_end0
   exact ⟨rfl,HF3.out.trans (HF4.out.trans HFI.out),HSI.out⟩
theorem beg_7 (G:Wk) (hwf:G.wf) (s s':Mean.St) (n:Mean.Un) (pl:Nat) (nt:List Int) (K:Mean.Kt) (hkind:n.kind=7) (hm:s.met (n.ad,pl,false)=0) (h:G.chain (s.mark (n.ad,pl,false)) (Mean.first G.t n pl nt K) s') (hb:s.calls≤4611686018427387904):G.does s (.beg n pl nt K) s':=by
 intro hn hpl hlen w v N c hc hs hr hk
 obtain ⟨vf,vc,rfl,hgo⟩:=kv_func hk
 obtain ⟨f3,hs3,x1,x2,x3⟩:=boxes3 hc hs 63 69 104 (.pointer (some ⟨G.wb,0,none⟩)) (.pointer (some ⟨n.ad,0,none⟩)) (.func (Fn.func vf) #[] vc)
 have HF3:=zzA f3
 have HC3:=zzA (hc.fr f3)
 have HR3:=zzA (hr.fr f3)
 have HK3:=zzA (Wk.kv_fr f3 hk)
 have HON:=zzA (once_any G _ s (n.ad,pl,false) (hc.fr f3) hs3 ⟨n,hn,rfl⟩ hb)
 have X1:=zzA x1
 have X2:=zzA x2
 have X3:=zzA x3
 have c1:=x1.2
 have c2:=x2.2
 have c3:=x3.2
 have HH:=zzA h
 have HWF:=zzA hwf
 clear f3 hs3 x1 x2 x3 hc hs hr hk h hwf
 generalize hw3:((w.alloc (.cells #[.pointer (some ⟨G.wb,0,none⟩)] 63)).alloc (.cells #[.pointer (some ⟨n.ad,0,none⟩)] 69)).alloc (.cells #[.func (Fn.func vf) #[] vc] 104)=w3 at *
 unfold kv at HON
 generalize hq1:w.heap.size=q1 at *
 go_enter Tryz.func28,Tryz.ntmps28
 go_wp2_with fail
 refine HON.out.mono ?_
 rintro e w4 ⟨rfl,hf4,hs4⟩
 have HF4:=zzA hf4
 have HS4:=zzA hs4
 have Y1:=zzA (X1.out.fr hf4)
 have Y2:=zzA (X2.out.fr hf4)
 have Y3:=zzA (X3.out.fr hf4)
 have HC4:=zzA (HC3.out.fr hf4)
 have HR4:=zzA (HR3.out.fr hf4)
 have HK4:=zzA (Wk.kv_fr hf4 HK3.out)
 have m1:=Y1.out.2
 have m2:=Y2.out.2
 have m3:=Y3.out.2
 obtain ⟨ra,rc,sa,sc,hnd⟩:=HC4.out.nodes n hn
 have HND:=zzA hnd
 have n0:w4.cell? ⟨n.ad,0,none⟩=some (.int .i64 n.kind):=hnd.blk.cell 0
 clear hf4 hs4 hnd c1 c2 c3 HON hw3
 rw [hkind] at n0
 have hmd:decide (s.met (n.ad,pl,false)=0)=true:=by simpa using hm
 rw [hmd]
 have hh:=HH.out
 unfold Mean.first at hh
 simp only [hkind] at hh
 clear hmd HH
 simp only [reduceIte,Int.reduceNeg,Int.reduceEq] at hh
 have fd:G.fr w4 w4.drew:=HC4.out.below (bdrewN (zzb _ _) 1)
 have HFD:=zzA fd
 have HCD:=zzA (HC4.out.fr fd)
 have HSD:=zzA (HS4.out.kept_below HC4.out (bdrewN (zzb _ _) 1))
 have HRD:=zzA (HR4.out.fr fd)
 have HKD:=zzA (Wk.kv_fr fd HK4.out)
 have Z1:=zzA (Y1.out.fr fd)
 have Z2:=zzA (Y2.out.fr fd)
 have Z3:=zzA (Y3.out.fr fd)
 have HNDD:=zzA (HND.out.fr fd)
 clear fd
 obtain ⟨s0,l0,hsub⟩:∃ s0 l0,n.subs=s0 :: l0:=by
  cases e:n.subs with
  | nil=>exact absurd e (HWF.out.one n hn (.inl hkind))
  | cons a l=>exact ⟨a,l,rfl⟩
 have hs0:s0∈G.U:=HWF.out.closed n hn s0 (by rw [hsub];exact zzH)
 have hlen0:n.subs.length=l0.length+1:=by rw [hsub];rfl
 have hrd:=HNDD.out.subs
 rw [hlen0] at hrd
 obtain ⟨ab,ao,rfl,hab,hac⟩:=rd_pos hrd (by omega)
 have HAB:=zzA hab
 have c0:w4.drew.cell? ⟨ab,ao+0,none⟩=some (.pointer (some ⟨s0.ad,0,none⟩)):=hac 0 _ (by rw [hsub];rfl)
 rw [Nat.add_zero] at c0
 have n5:w4.drew.cell? ⟨n.ad,5,none⟩=some (.slice (some ⟨ab,ao,none⟩) (l0.length+1) sc):=by have:=HNDD.out.blk.cell 5;rw [hlen0] at this;exact this
 have hgt:(0:Int) < ((l0.length:Int)+1):=by omega
 rw [hsub] at hh
 simp only [] at hh
 clear hrd hab hac
 obtain ⟨s1,h1,rfl⟩:=hh
 obtain ⟨hi0,hi1⟩:=HWF.out.grp n hn hkind
 have hNL:=HWF.out.nl.2
 obtain ⟨j,hj⟩:∃ j:Nat,j=(2*n.ix).toNat:=⟨_,rfl⟩
 rw [←hj] at h1
 have HNT:=zzA (noted_any N G.NL c j nt (pl:Int) w4.drew HRD.out.2.2.2.1 (HRD.out.reads fun b hb=>hb.1) hNL (by omega))
 have HBG:=zzA (h1 hs0 hpl (by rw [zzu];exact hlen))
 have hw1:IntKind.i64.wrap (2*n.ix)=(j:Int):=by rw [zzx];omega
 have kA:w4.drew.cell? ⟨q1,0,none⟩=some (.pointer (some ⟨G.wb,0,none⟩))∧w4.drew.cell? ⟨q1+1,0,none⟩=some (.pointer (some ⟨n.ad,0,none⟩))∧w4.drew.cell? ⟨n.ad,5,none⟩=some (.slice (some ⟨ab,ao,none⟩) (l0.length+1) sc)∧w4.drew.cell? ⟨ab,ao,none⟩=some (.pointer (some ⟨s0.ad,0,none⟩))∧w4.drew.cell? ⟨n.ad,3,none⟩=some (.int .i64 n.ix):=And.intro (Z1.out.2) (And.intro (Z2.out.2) (And.intro (n5) (And.intro (c0) (HNDD.out.blk.cell 3))))
 clear h1 n5 c0 hsub hj
 simp only []
 go_wp2_with fail
 go_region_held_law (fun u=>u.cell? ⟨q1,0,none⟩=some (.pointer (some ⟨G.wb,0,none⟩))∧u.cell? ⟨q1+1,0,none⟩=some (.pointer (some ⟨n.ad,0,none⟩))∧u.cell? ⟨n.ad,5,none⟩=some (.slice (some ⟨ab,ao,none⟩) (l0.length+1) sc)∧u.cell? ⟨ab,ao,none⟩=some (.pointer (some ⟨s0.ad,0,none⟩))∧u.cell? ⟨n.ad,3,none⟩=some (.int .i64 n.ix)) (first | with_reducible exact kA | with_reducible exact kB | with_reducible exact kC)
  (first
   | (go_at_call 50;(with_reducible refine HNT.out.mono ?_);rintro e w5 ⟨N',c',rfl,hb5,hr5⟩;have f5:=HCD.out.below hb5;have HR5:=zzA (hr5.mono fun b hb=>HSD.out.still_new HCD.out hb5 hb.1 hb.2);have kB:=And.intro ((Z1.out.1.cell f5 (0)).trans kA.1) (And.intro ((Z2.out.1.cell f5 (0)).trans kA.2.1) (And.intro ((HNDD.out.still.cell f5 (5)).trans kA.2.2.1) (And.intro ((HAB.out.cell f5 (ao)).trans kA.2.2.2.1) ((HNDD.out.still.cell f5 (3)).trans kA.2.2.2.2))));have HCALL:=zzA (HBG.out w5 _ N' c' (HCD.out.fr f5) (HSD.out.kept_below HCD.out hb5) HR5.out (show G.kv w5 (.grp n.ix K) (.func (Fn.func 51) #[] #[.pointer (some ⟨q1+1+1,0,none⟩),.pointer (some ⟨q1+1,0,none⟩)]) from ⟨_,_,n,_,rfl,Z3.out.fr f5,Wk.kv_fr f5 HKD.out,Z2.out.fr f5,hn,rfl,hi0,hi1⟩));have HF5:=zzA f5;clear hb5 hr5 f5;simp only [])
   | (go_at_call 28;(with_reducible refine HCALL.out.mono ?_);rintro e w6 ⟨rfl,hx⟩;have HX:=zzA hx;have kC:=And.intro (((Z1.out.1.fr HF5.out).cell hx.1 (0)).trans kB.1) (And.intro (((Z2.out.1.fr HF5.out).cell hx.1 (0)).trans kB.2.1) (And.intro (((HNDD.out.still.fr HF5.out).cell hx.1 (5)).trans kB.2.2.1) (And.intro (((HAB.out.fr HF5.out).cell hx.1 (ao)).trans kB.2.2.2.1) (((HNDD.out.still.fr HF5.out).cell hx.1 (3)).trans kB.2.2.2.2))));clear hx;simp only []))
 all_goals (go_wp2_with fail)
 all_goals go_end0
 all_goals exact ⟨rfl,HF3.out.trans (HF4.out.trans (HFD.out.trans (HF5.out.trans HX.out.1))),HX.out.2⟩
theorem beg_q (G:Wk) (hwf:G.wf) (s s':Mean.St) (n:Mean.Un) (pl:Nat) (nt:List Int) (K:Mean.Kt) (hkind:n.kind=-1) (hm:s.met (n.ad,pl,false)=0) (h:G.chain (s.mark (n.ad,pl,false)) (Mean.first G.t n pl nt K) s') (hb:s.calls≤4611686018427387904):G.does s (.beg n pl nt K) s':=by
 intro hn hpl hlen w v N c hc hs hr hk
 obtain ⟨vf,vc,rfl,hgo⟩:=kv_func hk
 obtain ⟨f3,hs3,x1,x2,x3⟩:=boxes3 hc hs 63 69 104 (.pointer (some ⟨G.wb,0,none⟩)) (.pointer (some ⟨n.ad,0,none⟩)) (.func (Fn.func vf) #[] vc)
 have HF3:=zzA f3
 have HC3:=zzA (hc.fr f3)
 have HR3:=zzA (hr.fr f3)
 have HK3:=zzA (Wk.kv_fr f3 hk)
 have HON:=zzA (once_any G _ s (n.ad,pl,false) (hc.fr f3) hs3 ⟨n,hn,rfl⟩ hb)
 have X1:=zzA x1
 have X2:=zzA x2
 have X3:=zzA x3
 have c1:=x1.2
 have c2:=x2.2
 have c3:=x3.2
 have HH:=zzA h
 have HWF:=zzA hwf
 clear f3 hs3 x1 x2 x3 hc hs hr hk h hwf
 generalize hw3:((w.alloc (.cells #[.pointer (some ⟨G.wb,0,none⟩)] 63)).alloc (.cells #[.pointer (some ⟨n.ad,0,none⟩)] 69)).alloc (.cells #[.func (Fn.func vf) #[] vc] 104)=w3 at *
 unfold kv at HON
 generalize hq1:w.heap.size=q1 at *
 go_enter Tryz.func28,Tryz.ntmps28
 go_wp2_with fail
 refine HON.out.mono ?_
 rintro e w4 ⟨rfl,hf4,hs4⟩
 have HF4:=zzA hf4
 have HS4:=zzA hs4
 have Y1:=zzA (X1.out.fr hf4)
 have Y2:=zzA (X2.out.fr hf4)
 have Y3:=zzA (X3.out.fr hf4)
 have HC4:=zzA (HC3.out.fr hf4)
 have HR4:=zzA (HR3.out.fr hf4)
 have HK4:=zzA (Wk.kv_fr hf4 HK3.out)
 have m1:=Y1.out.2
 have m2:=Y2.out.2
 have m3:=Y3.out.2
 obtain ⟨ra,rc,sa,sc,hnd⟩:=HC4.out.nodes n hn
 have HND:=zzA hnd
 have n0:w4.cell? ⟨n.ad,0,none⟩=some (.int .i64 n.kind):=hnd.blk.cell 0
 clear hf4 hs4 hnd c1 c2 c3 HON hw3
 rw [hkind] at n0
 have hmd:decide (s.met (n.ad,pl,false)=0)=true:=by simpa using hm
 rw [hmd]
 have hh:=HH.out
 unfold Mean.first at hh
 simp only [hkind] at hh
 clear hmd HH
 simp only [reduceIte,Int.reduceNeg,Int.reduceEq] at hh
 have HCH:=zzA (choose_any G _ s' n pl nt K K hh hn (HWF.out.one n hn (.inr (.inl hkind))) HWF.out.closed hpl hlen w4 _ _ N c HC4.out HS4.out HR4.out HK4.out HK4.out)
 clear hh
 simp only []
 go_wp2_with fail
 refine HCH.out.mono ?_
 rintro e w5 ⟨rfl,hx⟩
 have HX:=zzA hx
 clear hx
 simp only []
 go_wp2_with fail
 go_end0
 exact ⟨rfl,HF3.out.trans (HF4.out.trans HX.out.1),HX.out.2⟩
end Go.Proofs.YtgkclnmmjedmkaaGreat
