/- simplify: what is reckoned of a tree: bounded, above, put, form, times. -/
import Derived.Handy
import Derived.BigQuiet
import Derived.Deep.QuietTactic
import Derived.Test.YtgkclnmmjedmkaaGreatP06
set_option maxRecDepth 100000
set_option maxHeartbeats 4000000
namespace Go.Proofs.YtgkclnmmjedmkaaGreat
open Go.RowKit Tr
def fvals (f:Tr.Form):List Value:=[.int .i64 f.kind,.int .i64 f.size,.int .i64 f.deep,.int .i64 f.subs]
def fv (f:Tr.Form):Value:=.agg (fvals f).toArray
def jvals (j:Jn):List Value:=[.int .i64 j.size,.int .i64 j.deep,.int .i64 j.subs,.int .i64 j.only.kind,.int .i64 j.only.size,.int .i64 j.only.deep,.int .i64 j.only.subs]
def FB (f:Tr.Form):Prop:=0≤f.size∧f.size≤200001∧0≤f.deep∧f.deep≤10001∧0≤f.subs∧f.subs≤200001
def JB (j:Jn):Prop:=0≤j.size∧j.size≤200001∧0≤j.deep∧j.deep≤10001∧0≤j.subs∧j.subs≤200001
theorem und_form:∃ d,Tryz.prog.underlying 93=some d∧isRow d=true:=⟨_,Tryz.underlying93,rfl⟩
theorem size_form:(Tryz.prog.info? 93).map (·.size)=some 4:=by kernel_rfl
theorem form_ret {fn:Func} {p:Tmp} (h:fn.results=#[.cell p 93]) (tmps:Array Value) (w:World) (g:Nat) (v0 v1 v2 v3:Value) (hp:tmps.getD p undef=.pointer (some ⟨g,0,none⟩)) (hg:Blk w g 93 [v0,v1,v2,v3]) :
  (results fn tmps).run Tryz.prog w=.ok (.agg #[v0,v1,v2,v3]) w:=by
 obtain ⟨d,hu,hd⟩:=und_form
 exact results_cell_one h tmps w g _ #[v0,v1,v2,v3] d hp hg hu hd size_form
theorem agg4 {a a' b b' c c' d d':Int} (h1:a=a') (h2:b=b') (h3:c=c') (h4:d=d'):Value.agg #[.int .i64 a,.int .i64 b,.int .i64 c,.int .i64 d]=Value.agg #[.int .i64 a',.int .i64 b',.int .i64 c',.int .i64 d']:=by subst h1 h2 h3 h4;rfl
theorem bounded_any (f:Tr.Form) (w:World) :
  Calls Tryz.prog 68 #[fv f] w fun e w'=>e=.returned (fv (boundF f))∧Below w.heap.size w w':=by
 simp only [fv,fvals,boundF,cN,cD]
 go_enter Tryz.func68,Tryz.ntmps68
 go_wp2_with fail
 all_goals
  refine zzm (form_ret rfl _ _ (w.heap.size+1) _ _ _ _ rfl (two_blk w _ _ _)) rfl ?_
  exact ⟨congrArg Ending.returned (agg4 rfl (by omega) (by omega) rfl),two_below w _ _⟩
theorem above_any (k:Int) (f:Tr.Form) (hf:FB f) (w:World) :
  Calls Tryz.prog 65 #[.int .i64 k,fv f] w fun e w'=>e=.returned (fv (aboveF k f))∧Below w.heap.size w w':=by
 have hB:=fun g u=>zzA (bounded_any g u)
 obtain ⟨h1,h2,h3,h4,h5,h6⟩:=hf
 simp only [fv,fvals,aboveF] at hB ⊢
 have hR:=two_blk w (.cells #[.int .i64 f.kind,.int .i64 f.size,.int .i64 f.deep,.int .i64 f.subs] 93) 93 [.int .i64 0,.int .i64 0,.int .i64 0,.int .i64 0]
 have h0:=two_below w (.cells #[.int .i64 f.kind,.int .i64 f.size,.int .i64 f.deep,.int .i64 f.subs] 93) (.cells #[.int .i64 0,.int .i64 0,.int .i64 0,.int .i64 0] 93)
 have HR:=zzA hR
 have H0:=zzA h0
 clear hR h0
 obtain ⟨g,hg⟩:∃ g,g=boundF ⟨k,f.size+1,f.deep+1,0⟩:=⟨_,rfl⟩
 have hB2:=fun u=>zzA (hB ⟨k,f.size+1,f.deep+1,0⟩ u).out
 rw [←hg] at hB2 ⊢
 clear hg hB
 go_enter Tryz.func65,Tryz.ntmps65
 go_wp2_with (go_at_call 68;refine (hB2 _).out.mono ?_;rintro e w2 ⟨rfl,hb2⟩;have hR2:=HR.out.below hb2 HR.out.lt;have HR2:=zzA hR2;have HB2:=zzA (H0.out.trans (hb2.mono H0.out.size));have q0:w2.cell? ⟨w.heap.size+1,0,none⟩=some (.int .i64 0):=hR2.cell 0;have q1:w2.cell? ⟨w.heap.size+1,1,none⟩=some (.int .i64 0):=hR2.cell 1;have q2:w2.cell? ⟨w.heap.size+1,2,none⟩=some (.int .i64 0):=hR2.cell 2;have q3:w2.cell? ⟨w.heap.size+1,3,none⟩=some (.int .i64 0):=hR2.cell 3;have s0:=hR2.frozen 0;have s1:=hR2.frozen 1;have s2:=hR2.frozen 2;have s3:=hR2.frozen 3;have s4:=hR2.lt;clear hb2 hR2;simp only [])
 refine zzm (form_ret rfl _ _ (w.heap.size+1) (.int .i64 g.kind) (.int .i64 g.size) (.int .i64 g.deep) (.int .i64 g.subs) rfl ((((HR2.out.set_ 0 (.int .i64 g.kind)).set_ 1 (.int .i64 g.size)).set_ 2 (.int .i64 g.deep)).set_ 3 (.int .i64 g.subs))) rfl ?_
 refine ⟨rfl,zyH HB2.out ((((zyG ⟨w.heap.size+1,0,none⟩ _).trans (zyG ⟨w.heap.size+1,1,none⟩ _)).trans (zyG ⟨w.heap.size+1,2,none⟩ _)).trans (zyG ⟨w.heap.size+1,3,none⟩ _)) ?_ HB2.out.size⟩
 intro b hb;simp at hb;omega
theorem jv_eq {a b c d e f g a' b' c' d' e' f' g':Int} (h1:a=a') (h2:b=b') (h3:c=c') (h4:d=d') (h5:e=e') (h6:f=f') (h7:g=g') :
  [Value.int .i64 a,.int .i64 b,.int .i64 c,.int .i64 d,.int .i64 e,.int .i64 f,.int .i64 g]=[.int .i64 a',.int .i64 b',.int .i64 c',.int .i64 d',.int .i64 e',.int .i64 f',.int .i64 g']:=by subst h1 h2 h3 h4 h5 h6 h7;rfl
theorem mul_bd {n s:Int} (hn:0≤n) (hn2:n≤1000) (hs:-1≤s) (hs2:s≤200001):-1000≤n*s∧n*s≤200001000:=by
 have h1:n*s≤200001000:=by
  have e1:n*s≤n*200001:=Int.mul_le_mul_of_nonneg_left hs2 hn
  omega
 have h2:0≤n*(s+1):=Int.mul_nonneg hn (by omega)
 rw [Int.mul_add,Int.mul_one] at h2
 constructor <;> omega
theorem jput_any (jb:Nat) (j:Jn) (f:Tr.Form) (n:Int) (w:World) (hj:Blk w jb 132 (jvals j)) (hJ:JB j) (hF:FB f) (hn0:0≤n) (hn1:n≤1000) :
  Calls Tryz.prog 66 #[.pointer (some ⟨jb,0,none⟩),fv f,.int .i64 n] w fun e w'=>e=.returned (.tuple #[])∧Blk w' jb 132 (jvals (jput j f n))∧Kept w w' [jb]:=by
 obtain ⟨a1,a2,a3,a4,a5,a6⟩:=hJ
 obtain ⟨b1,b2,b3,b4,b5,b6⟩:=hF
 obtain ⟨js,jd,jn,jo⟩:=j
 obtain ⟨fk,fs,fd,fn⟩:=f
 simp only [] at a1 a2 a3 a4 a5 a6 b1 b2 b3 b4 b5 b6
 have m1:=mul_bd hn0 hn1 (s:=fs - 1) (by omega) (by omega)
 have m2:=mul_bd hn0 hn1 (s:=fs) (by omega) (by omega)
 have m3:=mul_bd hn0 hn1 (s:=fn) (by omega) (by omega)
 have hb0:Below w.heap.size w (w.alloc (.cells #[.int .i64 fk,.int .i64 fs,.int .i64 fd,.int .i64 fn] 93)):=(zzb _ _).alloc (zzF _) _
 have hj1:=hj.alloc (.cells #[.int .i64 fk,.int .i64 fs,.int .i64 fd,.int .i64 fn] 93)
 have hbf:=zyI w 93 [.int .i64 fk,.int .i64 fs,.int .i64 fd,.int .i64 fn]
 have hlt:=hj.lt
 simp only [jvals] at hj1
 simp only [fv,fvals]
 have HJ:=zzA hj1
 have HB0:=zzA hb0
 have HBF:=zzA hbf
 simp only [jvals] at hj
 have HJ0:=zzA hj
 have c0:w.cell? ⟨jb,0,none⟩=some (.int .i64 js):=hj.cell 0
 have c1:w.cell? ⟨jb,1,none⟩=some (.int .i64 jd):=hj.cell 1
 have c2:w.cell? ⟨jb,2,none⟩=some (.int .i64 jn):=hj.cell 2
 have c3:w.cell? ⟨jb,3,none⟩=some (.int .i64 jo.kind):=hj.cell 3
 have c4:w.cell? ⟨jb,4,none⟩=some (.int .i64 jo.size):=hj.cell 4
 have c5:w.cell? ⟨jb,5,none⟩=some (.int .i64 jo.deep):=hj.cell 5
 have c6:w.cell? ⟨jb,6,none⟩=some (.int .i64 jo.subs):=hj.cell 6
 have s0:=hj.frozen 0
 have s1:=hj.frozen 1
 have s2:=hj.frozen 2
 have s3:=hj.frozen 3
 have s4:=hj.frozen 4
 have s5:=hj.frozen 5
 have s6:=hj.frozen 6
 clear hj hb0 hj1 hbf
 have e1:min js 200001=js:=by omega
 have e2:min jn 200001=jn:=by omega
 by_cases h0:n=0
 ·subst h0
  go_enter Tryz.func66,Tryz.ntmps66
  go_wp2_with fail
  all_goals
   go_end0
   refine ⟨rfl,blk_eq (((HJ0.out.set_ 0 _).set_ 2 _).alloc _) ?_,((((zyG (w:=w) ⟨jb,0,none⟩ _).trans (zyG ⟨jb,2,none⟩ _)).trans (Kept.alloc (L:=[]) _)).more (by intro b hb;simp at hb;exact .inl (by simp [hb])))⟩
   simp only [jvals,jput,jput1,cN,zzD,zzC]
   simp only [true_or,if_true]
   exact jv_eq (by omega) rfl (by omega) rfl rfl rfl rfl
 by_cases h1:fk=1
 ·subst h1
  go_enter Tryz.func66,Tryz.ntmps66
  go_wp2_with fail
  all_goals
   go_end0
   refine ⟨rfl,blk_eq (((HJ0.out.set_ 0 _).set_ 2 _).alloc _) ?_,((((zyG (w:=w) ⟨jb,0,none⟩ _).trans (zyG ⟨jb,2,none⟩ _)).trans (Kept.alloc (L:=[]) _)).more (by intro b hb;simp at hb;exact .inl (by simp [hb])))⟩
   simp only [jvals,jput,jput1,cN,zzD,zzC]
   simp only [or_true,if_true]
   exact jv_eq (by omega) rfl (by omega) rfl rfl rfl rfl
 have hc:¬(n=0∨fk=1):=fun h=>h.elim h0 h1
 have HC:=zzA hc
 clear hc
 by_cases h4:fk=4
 ·subst h4
  obtain ⟨q1,hq1⟩:∃ q,n*(fs - 1)=q:=⟨_,rfl⟩
  obtain ⟨q3,hq3⟩:∃ q,n*fn=q:=⟨_,rfl⟩
  rw [hq1] at m1
  rw [hq3] at m3
  go_enter Tryz.func66,Tryz.ntmps66
  go_wp2_with fail
  go_region
  all_goals go_wp2_with fail
  all_goals (try go_region)
  all_goals go_wp2_with fail
  all_goals (try go_region)
  all_goals go_wp2_with fail
  all_goals (try go_region)
  all_goals go_wp2_with fail
  all_goals
   go_end0
   refine ⟨rfl,blk_eq ((((((HJ0.out.set_ 0 _).set_ 1 _).set_ 2 _).set_ 0 _).set_ 2 _).alloc _).drew.drew.drew ?_,((((((((((zyG (w:=w) ⟨jb,0,none⟩ _).trans (zyG ⟨jb,1,none⟩ _)).trans (zyG ⟨jb,2,none⟩ _)).trans (zyG ⟨jb,0,none⟩ _)).trans (zyG ⟨jb,2,none⟩ _)).trans (Kept.alloc (L:=[]) _)).trans (Kept.drew (L:=[]))).trans (Kept.drew (L:=[]))).trans (Kept.drew (L:=[]))).more (by intro b hb;simp at hb;exact .inl (by simp [hb])))⟩
   simp only [jvals,jput,jput1,cN,zzD,zzC]
   rw [if_neg HC.out,if_pos trivial,hq1,hq3]
   exact jv_eq (by simp only [];omega) (by simp only [];omega) (by simp only [];omega) rfl rfl rfl rfl
 ·obtain ⟨q2,hq2⟩:∃ q,n*fs=q:=⟨_,rfl⟩
  rw [hq2] at m2
  have h4b:(fk==4)=false:=by simpa using h4
  have h1b:(fk==1)=false:=by simpa using h1
  have h0b:(n==0)=false:=by simpa using h0
  go_enter Tryz.func66,Tryz.ntmps66
  go_wp2_with fail
  go_region
  all_goals go_wp2_with fail
  all_goals (try go_region)
  all_goals go_wp2_with fail
  all_goals (try go_region)
  all_goals go_wp2_with fail
  all_goals (try go_region)
  all_goals go_wp2_with fail
  all_goals
   go_end0
   refine ⟨rfl,blk_eq ((((((((((HJ0.out.set_ 0 _).set_ 1 _).set_ 2 _).set_ 3 _).set_ 4 _).set_ 5 _).set_ 6 _).set_ 0 _).set_ 2 _).alloc _).drew.drew ?_,(((((((((((((zyG (w:=w) ⟨jb,0,none⟩ _).trans (zyG ⟨jb,1,none⟩ _)).trans (zyG ⟨jb,2,none⟩ _)).trans (zyG ⟨jb,3,none⟩ _)).trans (zyG ⟨jb,4,none⟩ _)).trans (zyG ⟨jb,5,none⟩ _)).trans (zyG ⟨jb,6,none⟩ _)).trans (zyG ⟨jb,0,none⟩ _)).trans (zyG ⟨jb,2,none⟩ _)).trans (Kept.alloc (L:=[]) _)).trans (Kept.drew (L:=[]))).trans (Kept.drew (L:=[]))).more (by intro b hb;simp at hb;exact .inl (by simp [hb])))⟩
   simp only [jvals,jput,jput1,cN,zzD,zzC]
   rw [if_neg HC.out,if_neg h4,hq2]
   exact jv_eq (by simp only [];omega) (by simp only [];omega) (by simp only [];omega) rfl rfl rfl rfl
end Go.Proofs.YtgkclnmmjedmkaaGreat
namespace Go.Proofs.YtgkclnmmjedmkaaGreat
open Tr
def FB1 (f:Tr.Form):Prop:=FB f∧1≤f.size∧1≤f.deep∧(f.kind=4→2≤f.subs)
def JB1 (j:Jn):Prop:=JB j∧(j.subs=1→FB1 j.only)
theorem jb1_zero:JB1 j0:=by
 simp only [JB1,JB,FB1,FB,j0];omega
theorem fb1_leaf {k:Int} (hk:k≠4):FB1 ⟨k,1,1,0⟩:=by
 simp only [FB1,FB];omega
theorem fb1_above {k:Int} {f:Tr.Form} (h:FB1 f) (hk:k≠4):FB1 (aboveF k f):=by
 simp only [FB1,FB,aboveF,boundF,cN,cD] at h ⊢;omega
theorem jb1_put {j:Jn} {f:Tr.Form} {n:Int} (hj:JB1 j) (hf:FB1 f) (hn:0≤n):JB1 (jput j f n):=by
 by_cases h0:n=0∨f.kind=1
 ·obtain ⟨js,jd,jn,o⟩:=j
  have e:jput ⟨js,jd,jn,o⟩ f n=⟨js,jd,jn,o⟩:=by
   obtain ⟨⟨_,h1,_,_,_,h2⟩,_⟩:=hj
   simp only [] at h1 h2
   simp only [jput,jput1,if_pos h0,cN]
   rw [Int.min_eq_left h1,Int.min_eq_left h2]
  rw [e];exact hj
 ·have hn1:1≤n:=by omega
  have m1:0≤n*(f.size - 1):=Int.mul_nonneg hn (by have:=hf.2.1;omega)
  have m2:0≤n*f.size:=Int.mul_nonneg hn (by have:=hf.2.1;omega)
  by_cases h4:f.kind=4
  ·have m3:1*2≤n*f.subs:=Int.mul_le_mul hn1 (hf.2.2.2 h4) (by decide) hn
   simp only [JB1,JB,FB1,FB] at hj hf
   simp only [JB1,JB,jput,jput1,if_neg h0,if_pos h4,cN]
   generalize n*(f.size - 1)=p at *
   generalize n*f.subs=q at *
   refine ⟨by omega,fun h=>?_⟩
   omega
  ·have hff:=hf
   simp only [JB1,JB,FB1,FB] at hj hf
   simp only [JB1,JB,jput,jput1,if_neg h0,if_neg h4,cN]
   generalize n*f.size=p at *
   exact ⟨by omega,fun _=>hff⟩
theorem fb1_jform {j:Jn} (hj:JB1 j):FB1 (jform j):=by
 unfold jform
 by_cases h0:j.subs=0
 ·rw [if_pos h0];exact fb1_leaf (by decide)
 ·by_cases h1:j.subs=1
  ·rw [if_neg h0,if_pos h1];exact hj.2 h1
  ·rw [if_neg h0,if_neg h1]
   have h:=hj.1
   simp only [JB] at h
   simp only [FB1,FB,boundF,cN,cD]
   omega
theorem fb1_opt {y:Tr.Form} (h:FB1 y):∀ n,FB1 (optF y n)
 | 0=>fb1_leaf (by decide)
 | n+1=>fb1_above (fb1_jform (jb1_put (jb1_put jb1_zero h (by decide)) (fb1_opt h n) (by decide))) (by decide)
theorem fb1_joins {l:List Tr.Form}:∀ {j:Jn},JB1 j→(∀ f∈l,FB1 f)→JB1 (l.foldl (fun j f=>jput j f 1) j):=by
 induction l with
 | nil=>intro j hj _;exact hj
 | cons f l ih =>
  intro j hj hl
  exact ih (jb1_put hj (hl f (by simp)) (by decide)) (fun g hg=>hl g (by simp [hg]))
def AB (p:Int × Int):Prop:=0≤p.1∧p.1≤200001∧0≤p.2∧p.2≤10001
theorem ab_put {p:Int × Int} {f:Tr.Form} (hp:AB p) (hf:FB1 f):AB (altPutF p f):=by
 simp only [AB,FB1,FB] at hp hf
 unfold altPutF
 by_cases h:f.kind=5
 ·simp only [if_pos h,AB,cN];omega
 ·simp only [if_neg h,AB,cN];omega
end Go.Proofs.YtgkclnmmjedmkaaGreat
