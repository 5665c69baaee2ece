/- simplify: what is reckoned of a tree: bounded, above, put, form, times. -/
import Derived.Handy
import Derived.BigQuiet
import Derived.Deep.QuietTactic
import Derived.Test.YtkhkllpdhnmhkaaP00
import Derived.Test.YtkhkllpdhnmhkaaP01
import Derived.Test.YtkhkllpdhnmhkaaP03
import Derived.Test.YtkhkllpdhnmhkaaP04
import Derived.Test.YtkhkllpdhnmhkaaP05
import Derived.Test.YtkhkllpdhnmhkaaP06
import Derived.Test.YtkhkllpdhnmhkaaP09
namespace Go.Proofs.Ytkhkllpdhnmhkaa
open Go.RowKit Tr
def fvals (f:Tr.Form):List Value:=[.int .i64 f.kind,.int .i64 f.size,.int .i64 f.deep,.int .i64 f.subs]
def fv (f:Tr.Form):Value:=.agg (fvals f).toArray
def jvals (j:Jn):List Value:=[.int .i64 j.size,.int .i64 j.deep,.int .i64 j.subs,.int .i64 j.only.kind,.int .i64 j.only.size,.int .i64 j.only.deep,.int .i64 j.only.subs]
def FB (f:Tr.Form):Prop:=0≤f.size∧f.size≤200001∧0≤f.deep∧f.deep≤10001∧0≤f.subs∧f.subs≤200001
def JB (j:Jn):Prop:=0≤j.size∧j.size≤200001∧0≤j.deep∧j.deep≤10001∧0≤j.subs∧j.subs≤200001
theorem und_form:∃ d,Try.prog.underlying 78=some d∧isRow d=true:=⟨_,Try.underlying78,rfl⟩
theorem size_form:(Try.prog.info? 78).map (·.size)=some 4:=by kernel_rfl
theorem form_ret {fn:Func} {p:Tmp} (h:fn.results=#[.cell p 78]) (tmps:Array Value) (w:World) (g:Nat) (v0 v1 v2 v3:Value) (hp:tmps.getD p undef=.pointer (some ⟨g,0,none⟩)) (hg:Blk w g 78 [v0,v1,v2,v3]) :
  (results fn tmps).run Try.prog w=.ok (.agg #[v0,v1,v2,v3]) w:=by
 obtain ⟨d,hu,hd⟩:=und_form
 exact results_cell_one h tmps w g _ #[v0,v1,v2,v3] d hp hg hu hd size_form
theorem agg4 {a a' b b' c c' d d':Int} (h1:a=a') (h2:b=b') (h3:c=c') (h4:d=d'):Value.agg #[.int .i64 a,.int .i64 b,.int .i64 c,.int .i64 d]=Value.agg #[.int .i64 a',.int .i64 b',.int .i64 c',.int .i64 d']:=by subst h1 h2 h3 h4;rfl
set_option maxHeartbeats 400000 in
theorem bounded_any (f:Tr.Form) (w:World) :
  Calls Try.prog 52 #[fv f] w fun e w'=>e=.returned (fv (boundF f))∧Below w.heap.size w w':=by
 simp only [fv,fvals,boundF,cN,cD]
 go_enter Try.func52,Try.ntmps52
 go_wp2_with fail
 all_goals
  refine bodyPost_ret (form_ret rfl _ _ (w.heap.size+1) _ _ _ _ rfl (two_blk w _ _ _)) rfl ?_
  exact ⟨congrArg Ending.returned (agg4 rfl (by omega) (by omega) rfl),two_below w _ _⟩
set_option maxHeartbeats 400000 in
theorem above_any (k:Int) (f:Tr.Form) (hf:FB f) (w:World) :
  Calls Try.prog 49 #[.int .i64 k,fv f] w fun e w'=>e=.returned (fv (aboveF k f))∧Below w.heap.size w w':=by
 have hB:=fun g u=>zzA (bounded_any g u)
 obtain ⟨h1,h2,h3,h4,h5,h6⟩:=hf
 simp only [fv,fvals,aboveF] at hB ⊢
 have hR:=two_blk w (.cells #[.int .i64 f.kind,.int .i64 f.size,.int .i64 f.deep,.int .i64 f.subs] 78) 78 [.int .i64 0,.int .i64 0,.int .i64 0,.int .i64 0]
 have h0:=two_below w (.cells #[.int .i64 f.kind,.int .i64 f.size,.int .i64 f.deep,.int .i64 f.subs] 78) (.cells #[.int .i64 0,.int .i64 0,.int .i64 0,.int .i64 0] 78)
 have HR:=zzA hR
 have H0:=zzA h0
 clear hR h0
 obtain ⟨g,hg⟩:∃ g,g=boundF ⟨k,f.size+1,f.deep+1,0⟩:=⟨_,rfl⟩
 have hB2:=fun u=>zzA (hB ⟨k,f.size+1,f.deep+1,0⟩ u).out
 rw [←hg] at hB2 ⊢
 clear hg hB
 go_enter Try.func49,Try.ntmps49
 go_wp2_with (go_at_call 52;refine (hB2 _).out.mono ?_;rintro e w2 ⟨rfl,hb2⟩;have hR2:=HR.out.below hb2 HR.out.lt;have HR2:=zzA hR2;have HB2:=zzA (H0.out.trans (hb2.mono H0.out.size));have q0:w2.cell? ⟨w.heap.size+1,0,none⟩=some (.int .i64 0):=hR2.cell 0;have q1:w2.cell? ⟨w.heap.size+1,1,none⟩=some (.int .i64 0):=hR2.cell 1;have q2:w2.cell? ⟨w.heap.size+1,2,none⟩=some (.int .i64 0):=hR2.cell 2;have q3:w2.cell? ⟨w.heap.size+1,3,none⟩=some (.int .i64 0):=hR2.cell 3;have s0:=hR2.frozen 0;have s1:=hR2.frozen 1;have s2:=hR2.frozen 2;have s3:=hR2.frozen 3;have s4:=hR2.lt;clear hb2 hR2;simp only [])
 refine bodyPost_ret (form_ret rfl _ _ (w.heap.size+1) (.int .i64 g.kind) (.int .i64 g.size) (.int .i64 g.deep) (.int .i64 g.subs) rfl ((((HR2.out.set_ 0 (.int .i64 g.kind)).set_ 1 (.int .i64 g.size)).set_ 2 (.int .i64 g.deep)).set_ 3 (.int .i64 g.subs))) rfl ?_
 refine ⟨rfl,Below.kept HB2.out ((((Kept.setCell ⟨w.heap.size+1,0,none⟩ _).trans (Kept.setCell ⟨w.heap.size+1,1,none⟩ _)).trans (Kept.setCell ⟨w.heap.size+1,2,none⟩ _)).trans (Kept.setCell ⟨w.heap.size+1,3,none⟩ _)) ?_ HB2.out.size⟩
 intro b hb;simp at hb;omega
theorem jv_eq {a b c d e f g a' b' c' d' e' f' g':Int} (h1:a=a') (h2:b=b') (h3:c=c') (h4:d=d') (h5:e=e') (h6:f=f') (h7:g=g') :
  [Value.int .i64 a,.int .i64 b,.int .i64 c,.int .i64 d,.int .i64 e,.int .i64 f,.int .i64 g]=[.int .i64 a',.int .i64 b',.int .i64 c',.int .i64 d',.int .i64 e',.int .i64 f',.int .i64 g']:=by subst h1 h2 h3 h4 h5 h6 h7;rfl
theorem mul_bd {n s:Int} (hn:0≤n) (hn2:n≤1000) (hs:-1≤s) (hs2:s≤200001):-1000≤n*s∧n*s≤200001000:=by
 have h1:n*s≤200001000:=by
  have e1:n*s≤n*200001:=Int.mul_le_mul_of_nonneg_left hs2 hn
  omega
 have h2:0≤n*(s+1):=Int.mul_nonneg hn (by omega)
 rw [Int.mul_add,Int.mul_one] at h2
 constructor <;> omega
set_option maxRecDepth 100000 in
set_option maxHeartbeats 4000000 in
theorem jput_any (jb:Nat) (j:Jn) (f:Tr.Form) (n:Int) (w:World) (hj:Blk w jb 101 (jvals j)) (hJ:JB j) (hF:FB f) (hn0:0≤n) (hn1:n≤1000) :
  Calls Try.prog 50 #[.pointer (some ⟨jb,0,none⟩),fv f,.int .i64 n] w fun e w'=>e=.returned (.tuple #[])∧Blk w' jb 101 (jvals (jput j f n))∧Kept w w' [jb]:=by
 obtain ⟨a1,a2,a3,a4,a5,a6⟩:=hJ
 obtain ⟨b1,b2,b3,b4,b5,b6⟩:=hF
 obtain ⟨js,jd,jn,jo⟩:=j
 obtain ⟨fk,fs,fd,fn⟩:=f
 simp only [] at a1 a2 a3 a4 a5 a6 b1 b2 b3 b4 b5 b6
 have m1:=mul_bd hn0 hn1 (s:=fs - 1) (by omega) (by omega)
 have m2:=mul_bd hn0 hn1 (s:=fs) (by omega) (by omega)
 have m3:=mul_bd hn0 hn1 (s:=fn) (by omega) (by omega)
 have hb0:Below w.heap.size w (w.alloc (.cells #[.int .i64 fk,.int .i64 fs,.int .i64 fd,.int .i64 fn] 78)):=(zzb _ _).alloc (zzF _) _
 have hj1:=hj.alloc (.cells #[.int .i64 fk,.int .i64 fs,.int .i64 fd,.int .i64 fn] 78)
 have hbf:=Blk.new w 78 [.int .i64 fk,.int .i64 fs,.int .i64 fd,.int .i64 fn]
 have hlt:=hj.lt
 simp only [jvals] at hj1
 simp only [fv,fvals]
 have HJ:=zzA hj1
 have HB0:=zzA hb0
 have HBF:=zzA hbf
 simp only [jvals] at hj
 have HJ0:=zzA hj
 have c0:w.cell? ⟨jb,0,none⟩=some (.int .i64 js):=hj.cell 0
 have c1:w.cell? ⟨jb,1,none⟩=some (.int .i64 jd):=hj.cell 1
 have c2:w.cell? ⟨jb,2,none⟩=some (.int .i64 jn):=hj.cell 2
 have c3:w.cell? ⟨jb,3,none⟩=some (.int .i64 jo.kind):=hj.cell 3
 have c4:w.cell? ⟨jb,4,none⟩=some (.int .i64 jo.size):=hj.cell 4
 have c5:w.cell? ⟨jb,5,none⟩=some (.int .i64 jo.deep):=hj.cell 5
 have c6:w.cell? ⟨jb,6,none⟩=some (.int .i64 jo.subs):=hj.cell 6
 have s0:=hj.frozen 0
 have s1:=hj.frozen 1
 have s2:=hj.frozen 2
 have s3:=hj.frozen 3
 have s4:=hj.frozen 4
 have s5:=hj.frozen 5
 have s6:=hj.frozen 6
 clear hj hb0 hj1 hbf
 have e1:min js 200001=js:=by omega
 have e2:min jn 200001=jn:=by omega
 by_cases h0:n=0
 ·subst h0
  go_enter Try.func50,Try.ntmps50
  go_wp2_with fail
  all_goals
   go_end0
   refine ⟨rfl,blk_eq (((HJ0.out.set_ 0 _).set_ 2 _).alloc _) ?_,((((Kept.setCell (w:=w) ⟨jb,0,none⟩ _).trans (Kept.setCell ⟨jb,2,none⟩ _)).trans (Kept.alloc (L:=[]) _)).more (by intro b hb;simp at hb;exact .inl (by simp [hb])))⟩
   simp only [jvals,jput,jput1,cN,zzD,zzC]
   simp only [true_or,if_true]
   exact jv_eq (by omega) rfl (by omega) rfl rfl rfl rfl
 by_cases h1:fk=1
 ·subst h1
  go_enter Try.func50,Try.ntmps50
  go_wp2_with fail
  all_goals
   go_end0
   refine ⟨rfl,blk_eq (((HJ0.out.set_ 0 _).set_ 2 _).alloc _) ?_,((((Kept.setCell (w:=w) ⟨jb,0,none⟩ _).trans (Kept.setCell ⟨jb,2,none⟩ _)).trans (Kept.alloc (L:=[]) _)).more (by intro b hb;simp at hb;exact .inl (by simp [hb])))⟩
   simp only [jvals,jput,jput1,cN,zzD,zzC]
   simp only [or_true,if_true]
   exact jv_eq (by omega) rfl (by omega) rfl rfl rfl rfl
 have hc:¬(n=0∨fk=1):=fun h=>h.elim h0 h1
 have HC:=zzA hc
 clear hc
 by_cases h4:fk=4
 ·subst h4
  obtain ⟨q1,hq1⟩:∃ q,n*(fs - 1)=q:=⟨_,rfl⟩
  obtain ⟨q3,hq3⟩:∃ q,n*fn=q:=⟨_,rfl⟩
  rw [hq1] at m1
  rw [hq3] at m3
  go_enter Try.func50,Try.ntmps50
  go_wp2_with fail
  go_region
  all_goals go_wp2_with fail
  all_goals (try go_region)
  all_goals go_wp2_with fail
  all_goals (try go_region)
  all_goals go_wp2_with fail
  all_goals (try go_region)
  all_goals go_wp2_with fail
  all_goals
   go_end0
   refine ⟨rfl,blk_eq ((((((HJ0.out.set_ 0 _).set_ 1 _).set_ 2 _).set_ 0 _).set_ 2 _).alloc _).drew.drew.drew ?_,((((((((((Kept.setCell (w:=w) ⟨jb,0,none⟩ _).trans (Kept.setCell ⟨jb,1,none⟩ _)).trans (Kept.setCell ⟨jb,2,none⟩ _)).trans (Kept.setCell ⟨jb,0,none⟩ _)).trans (Kept.setCell ⟨jb,2,none⟩ _)).trans (Kept.alloc (L:=[]) _)).trans (Kept.drew (L:=[]))).trans (Kept.drew (L:=[]))).trans (Kept.drew (L:=[]))).more (by intro b hb;simp at hb;exact .inl (by simp [hb])))⟩
   simp only [jvals,jput,jput1,cN,zzD,zzC]
   rw [if_neg HC.out,if_pos trivial,hq1,hq3]
   exact jv_eq (by simp only [];omega) (by simp only [];omega) (by simp only [];omega) rfl rfl rfl rfl
 ·obtain ⟨q2,hq2⟩:∃ q,n*fs=q:=⟨_,rfl⟩
  rw [hq2] at m2
  have h4b:(fk==4)=false:=by simpa using h4
  have h1b:(fk==1)=false:=by simpa using h1
  have h0b:(n==0)=false:=by simpa using h0
  go_enter Try.func50,Try.ntmps50
  go_wp2_with fail
  go_region
  all_goals go_wp2_with fail
  all_goals (try go_region)
  all_goals go_wp2_with fail
  all_goals (try go_region)
  all_goals go_wp2_with fail
  all_goals (try go_region)
  all_goals go_wp2_with fail
  all_goals
   go_end0
   refine ⟨rfl,blk_eq ((((((((((HJ0.out.set_ 0 _).set_ 1 _).set_ 2 _).set_ 3 _).set_ 4 _).set_ 5 _).set_ 6 _).set_ 0 _).set_ 2 _).alloc _).drew.drew ?_,(((((((((((((Kept.setCell (w:=w) ⟨jb,0,none⟩ _).trans (Kept.setCell ⟨jb,1,none⟩ _)).trans (Kept.setCell ⟨jb,2,none⟩ _)).trans (Kept.setCell ⟨jb,3,none⟩ _)).trans (Kept.setCell ⟨jb,4,none⟩ _)).trans (Kept.setCell ⟨jb,5,none⟩ _)).trans (Kept.setCell ⟨jb,6,none⟩ _)).trans (Kept.setCell ⟨jb,0,none⟩ _)).trans (Kept.setCell ⟨jb,2,none⟩ _)).trans (Kept.alloc (L:=[]) _)).trans (Kept.drew (L:=[]))).trans (Kept.drew (L:=[]))).more (by intro b hb;simp at hb;exact .inl (by simp [hb])))⟩
   simp only [jvals,jput,jput1,cN,zzD,zzC]
   rw [if_neg HC.out,if_neg h4,hq2]
   exact jv_eq (by simp only [];omega) (by simp only [];omega) (by simp only [];omega) rfl rfl rfl rfl
end Go.Proofs.Ytkhkllpdhnmhkaa
namespace Go.Proofs.Ytkhkllpdhnmhkaa
open Tr
def FB1 (f:Tr.Form):Prop:=FB f∧1≤f.size∧1≤f.deep∧(f.kind=4→2≤f.subs)
def JB1 (j:Jn):Prop:=JB j∧(j.subs=1→FB1 j.only)
theorem jb1_zero:JB1 j0:=by
 simp only [JB1,JB,FB1,FB,j0];omega
theorem fb1_leaf {k:Int} (hk:k≠4):FB1 ⟨k,1,1,0⟩:=by
 simp only [FB1,FB];omega
theorem fb1_above {k:Int} {f:Tr.Form} (h:FB1 f) (hk:k≠4):FB1 (aboveF k f):=by
 simp only [FB1,FB,aboveF,boundF,cN,cD] at h ⊢;omega
theorem jb1_put {j:Jn} {f:Tr.Form} {n:Int} (hj:JB1 j) (hf:FB1 f) (hn:0≤n):JB1 (jput j f n):=by
 by_cases h0:n=0∨f.kind=1
 ·obtain ⟨js,jd,jn,o⟩:=j
  have e:jput ⟨js,jd,jn,o⟩ f n=⟨js,jd,jn,o⟩:=by
   obtain ⟨⟨_,h1,_,_,_,h2⟩,_⟩:=hj
   simp only [] at h1 h2
   simp only [jput,jput1,if_pos h0,cN]
   rw [Int.min_eq_left h1,Int.min_eq_left h2]
  rw [e];exact hj
 ·have hn1:1≤n:=by omega
  have m1:0≤n*(f.size - 1):=Int.mul_nonneg hn (by have:=hf.2.1;omega)
  have m2:0≤n*f.size:=Int.mul_nonneg hn (by have:=hf.2.1;omega)
  by_cases h4:f.kind=4
  ·have m3:1*2≤n*f.subs:=Int.mul_le_mul hn1 (hf.2.2.2 h4) (by decide) hn
   simp only [JB1,JB,FB1,FB] at hj hf
   simp only [JB1,JB,jput,jput1,if_neg h0,if_pos h4,cN]
   generalize n*(f.size - 1)=p at *
   generalize n*f.subs=q at *
   refine ⟨by omega,fun h=>?_⟩
   omega
  ·have hff:=hf
   simp only [JB1,JB,FB1,FB] at hj hf
   simp only [JB1,JB,jput,jput1,if_neg h0,if_neg h4,cN]
   generalize n*f.size=p at *
   exact ⟨by omega,fun _=>hff⟩
theorem fb1_jform {j:Jn} (hj:JB1 j):FB1 (jform j):=by
 unfold jform
 by_cases h0:j.subs=0
 ·rw [if_pos h0];exact fb1_leaf (by decide)
 ·by_cases h1:j.subs=1
  ·rw [if_neg h0,if_pos h1];exact hj.2 h1
  ·rw [if_neg h0,if_neg h1]
   have h:=hj.1
   simp only [JB] at h
   simp only [FB1,FB,boundF,cN,cD]
   omega
theorem fb1_opt {y:Tr.Form} (h:FB1 y):∀ n,FB1 (optF y n)
 | 0=>fb1_leaf (by decide)
 | n+1=>fb1_above (fb1_jform (jb1_put (jb1_put jb1_zero h (by decide)) (fb1_opt h n) (by decide))) (by decide)
theorem fb1_joins {l:List Tr.Form}:∀ {j:Jn},JB1 j→(∀ f∈l,FB1 f)→JB1 (l.foldl (fun j f=>jput j f 1) j):=by
 induction l with
 | nil=>intro j hj _;exact hj
 | cons f l ih =>
  intro j hj hl
  exact ih (jb1_put hj (hl f (by simp)) (by decide)) (fun g hg=>hl g (by simp [hg]))
def AB (p:Int × Int):Prop:=0≤p.1∧p.1≤200001∧0≤p.2∧p.2≤10001
theorem ab_put {p:Int × Int} {f:Tr.Form} (hp:AB p) (hf:FB1 f):AB (altPutF p f):=by
 simp only [AB,FB1,FB] at hp hf
 unfold altPutF
 by_cases h:f.kind=5
 ·simp only [if_pos h,AB,cN];omega
 ·simp only [if_neg h,AB,cN];omega
end Go.Proofs.Ytkhkllpdhnmhkaa
namespace Go.Proofs.Ytkhkllpdhnmhkaa
open Tr Mach
namespace Mean
inductive Chn (R:St→FTask→St→Prop):St→List FTask→St→Prop
 | nil {s:St}:Chn R s [] s
 | cons {s s1 s2:St} {k:FTask} {l:List FTask}:R s k s1→Chn R s1 l s2→Chn R s (k :: l) s2
section
variable {t:List Int} {at_:Nat}
mutual
theorem oneF_ind {M:St→FTask→St→Prop} (h:∀ s k s1,OneF t at_ s k s1→Chn (fun a x b=>OneF t at_ a x b∧M a x b) (workF t at_ s k).1 (workF t at_ s k).2 s1→M s k s1):∀ {s s1:St} {k:FTask},OneF t at_ s k s1→M s k s1
 | s,s1,k,.mk g=>h s k s1 (.mk g) (manyF_ind h g)
theorem manyF_ind {M:St→FTask→St→Prop} (h:∀ s k s1,OneF t at_ s k s1→Chn (fun a x b=>OneF t at_ a x b∧M a x b) (workF t at_ s k).1 (workF t at_ s k).2 s1→M s k s1):∀ {s s1:St} {l:List FTask},ManyF t at_ s l s1→Chn (fun a x b=>OneF t at_ a x b∧M a x b) s l s1
 | _,_,_,.nil=>.nil
 | _,_,_,.cons h1 h2=>.cons ⟨h1,oneF_ind h h1⟩ (manyF_ind h h2)
end
def GrowsF (s s1:St):Prop:=(∃ r,s1.out=s.out++r)∧∀ m,s.met m≠0→s1.met m≠0
theorem GrowsF.refl (s:St):GrowsF s s:=⟨⟨[],by simp⟩,fun _ h=>h⟩
theorem GrowsF.trans {a b c:St} (h:GrowsF a b) (g:GrowsF b c):GrowsF a c:=by
 obtain ⟨⟨r,hr⟩,h2⟩:=h
 obtain ⟨⟨q,hq⟩,g2⟩:=g
 exact ⟨⟨r++q,by rw [hq,hr,List.append_assoc]⟩,fun m hm=>g2 m (h2 m hm)⟩
theorem workF_grows (s:St) (k:FTask):GrowsF s (workF t at_ s k).1:=by
 cases k with
 | beg n pl nt F=>exact ⟨⟨[],by simp [workF,St.mark]⟩,fun m hm=>met_mark hm⟩
 | dcd n pl nt F=>exact ⟨⟨[],by simp [workF,St.mark]⟩,fun m hm=>met_mark hm⟩
 | top pl nt =>
  refine ⟨?_,fun m hm=>by rw [show (workF t at_ s (.top pl nt)).1=ended at_ s pl nt from rfl,ended_met];exact hm⟩
  show ∃ r,(ended at_ s pl nt).out=_
  unfold ended
  split
  ·exact ⟨[],by simp⟩
  ·exact ⟨_,rfl⟩
theorem chn_grows {M:St→FTask→St→Prop} (h:∀ a x b,M a x b→GrowsF a b):∀ {s s1:St} {l:List FTask},Chn M s l s1→GrowsF s s1
 | _,_,_,.nil=>GrowsF.refl _
 | _,_,_,.cons h1 h2=>(h _ _ _ h1).trans (chn_grows h h2)
theorem oneF_grows {s s1:St} {k:FTask} (h:OneF t at_ s k s1):GrowsF s s1 :=
 oneF_ind (M:=fun a _ b=>GrowsF a b) (fun s k s1 _ hc=>(workF_grows s k).trans (chn_grows (fun _ _ _ h=>h.2) hc)) h
theorem mark_back {s:St} {m x:Mark} (h:(s.mark m).met x≠0):s.met x≠0∨x=m:=by
 by_cases e:x=m
 ·exact .inr e
 ·rw [met_other e] at h;exact .inl h
end
def nmL:List Un→Nat→Prop
 | [],_=>True
 | u :: l,i=>u.ad=i∧nmL l (i+u.all.length)
theorem nmL_bd:∀ {l:List Un} {i:Nat},nmL l i→∀ u∈l,i≤u.ad∧u.ad+u.all.length≤i+(allU l).length
 | v :: l,i,h,u,hu=>by
  rw [allU,zzG]
  rcases zzN.1 hu with rfl | hu
  ·have:=h.1;omega
  ·have:=nmL_bd h.2 u hu;omega
structure Lay (I:Nat→Option Ins) (P:List (Un × Nat)) (E:Nat):Prop where
 loc:∀ q∈P,Loc I P q.1 q.2
 node:∀ q∈P,nodeW q.1
 nm:∀ q∈P,nmL q.1.subs (q.1.ad+1)
 ad:∀ q∈P,∀ r∈P,q.1.ad=r.1.ad→q=r
 own:∀ q∈P,∀ r∈P,∀ i,i∈ownB q.1 q.2→i∈ownB r.1 r.2→q=r
 fin:I E=some ⟨3,(E+1:Nat),0,1,[]⟩
 mat:I (E+1)=some ⟨5,0,0,0,[]⟩
inductive Cn (I:Nat→Option Ins) (P:List (Un × Nat)) (E:Nat):List Pc→Nat→Nat→Prop
 | top {j:Nat}:Cn I P E [] E j
 | nop {F:List Pc} {pc e j:Nat}:I pc=some ⟨7,(e:Nat),0,0,[]⟩→Cn I P E F e j→Cn I P E F pc j
 | b {n:Un} {F:List Pc} {b j:Nat}:(n,b)∈P→j≤n.ad→Cn I P E F (b+lenN n) (n.ad+n.all.length)→Cn I P E (.b n :: F) b j
 | g {i:Int} {F:List Pc} {pc j:Nat}:1≤i→I pc=some ⟨3,(pc+1:Nat),0,2*i+1,[]⟩→Cn I P E F (pc+1) j→Cn I P E (.g i :: F) pc j
 | d {n:Un} {F:List Pc} {pc b j:Nat}:(n,b)∈P→n.kind=-2∨n.kind=-3→pc∈ownB n b→Cn I P E F (b+lenN n) (n.ad+n.all.length)→Cn I P E (.d n :: F) pc j
section
variable {I:Nat→Option Ins} {P:List (Un × Nat)} {E:Nat}
theorem Cn.less {F:List Pc} {pc j:Nat} (h:Cn I P E F pc j):∀ {j':Nat},j'≤j→Cn I P E F pc j':=by
 induction h with
 | top=>intro j' _;exact .top
 | nop h1 _ ih=>intro j' hj;exact .nop h1 (ih hj)
 | b h1 h2 h3 _=>intro j' hj;exact .b h1 (zzU hj h2) h3
 | g h0 h1 _ ih=>intro j' hj;exact .g h0 h1 (ih hj)
 | d h1 h2 h3 h4 _=>intro j' _;exact .d h1 h2 h3 h4
theorem row_cn {F:List Pc} {e jF:Nat} (hF:Cn I P E F e jF):∀ {l:List Un} {b i:Nat},RowP P l b→nmL l i→b+lensN l=e→i+(allU l).length≤jF→Cn I P E (l.map .b++F) b i
 | [],b,i,_,_,he,hi=>by
  obtain rfl:b=e:=by rw [←he];simp [lensN]
  exact hF.less (by simpa [allU] using hi)
 | u :: l,b,i,hr,hn,he,hi=>by
  rw [lensN] at he
  rw [allU,zzG] at hi
  refine .b hr.1 (by rw [hn.1];exact zzF _) ?_
  rw [hn.1]
  exact row_cn hF hr.2 hn.2 (by omega) (by omega)
theorem alt_own:∀ {l:List Un} {b e:Nat},AltP I P l b e→∀ i∈altPc l b,∃ x,I i=some x∧x.op=2
 | [],_,_,_,i,hi=>by simp [altPc] at hi
 | u :: l,b,e,h,i,hi=>by
  rw [altPc] at hi
  rw [AltP] at h
  split at hi
  ·simp at hi
  ·rename_i hl
   rw [if_neg hl] at h
   rcases zzN.1 hi with rfl | hi
   ·exact ⟨_,h.1,rfl⟩
   ·exact alt_own h.2.2.2 i hi
theorem altI_op (z:Bool) (x y:Nat):(altI z x y).op=2:=by unfold altI;split <;> rfl
theorem Lay.own_op (L:Lay I P E) {q:Un × Nat} (hq:q∈P) {i:Nat} (hi:i∈ownB q.1 q.2):∃ x,I i=some x∧x.op=2:=by
 have hl:=L.loc q hq
 have hw:=L.node q hq
 unfold ownB at hi
 by_cases k5:q.1.kind=5
 ·rw [if_pos k5] at hi
  exact alt_own (hl.alt k5) i hi
 rw [if_neg k5] at hi
 by_cases k1:q.1.kind=-1∨q.1.kind=-2
 ·rw [if_pos k1,zzE] at hi
  subst hi
  rcases k1 with k1 | k1
  ·obtain ⟨s,hs⟩:=hw.2.2.2.2 (by omega)
   exact ⟨_,(hl.opt s k1 hs).1,altI_op _ _ _⟩
  ·obtain ⟨s,hs⟩:=hw.2.2.2.2 (by omega)
   exact ⟨_,(hl.star s k1 hs).1,altI_op _ _ _⟩
 rw [if_neg k1] at hi
 by_cases k3:q.1.kind=-3
 ·rw [if_pos k3,zzE] at hi
  obtain ⟨s,hs⟩:=hw.2.2.2.2 (by omega)
  obtain ⟨h1,-,h2⟩:=hl.plus s k3 hs
  rw [show q.2+lenN q.1 - 1=q.2+lenN s from by omega] at hi
  rw [hi]
  exact ⟨_,h1,altI_op _ _ _⟩
 ·rw [if_neg k3] at hi;cases hi
end
def dB (n:Un):Bool:=decide (n.kind=-2∨n.kind=-3)
structure Inv (I:Nat→Option Ins) (P:List (Un × Nat)) (E:Nat) (t:List Int) (s:St) (M:Nat→Nat→Bool) (T:Option (Nat × Nat)) (j:Nat) (Pd:List (Nat × Nat)):Prop where
 beg:∀ q∈P,∀ k,s.met (q.1.ad,k,false)≠0→M q.2 k=true∨(T=some (q.2,k)∧q.1.ad < j)
 dec:∀ q∈P,∀ k,s.met (q.1.ad,k,true)≠0→∀ i∈ownB q.1 q.2,M i k=true
 own:∀ q∈P,∀ i∈ownB q.1 q.2,∀ k,M i k=true→s.met (q.1.ad,k,dB q.1)≠0
 next:∀ i k x,I i=some x→x.op≠2→M i k=true→∀ r∈nexts t x k,M r.1 r.2=true∨T=some r
 pend:∀ r∈Pd,M r.1 r.2=false∧∃ q∈P,q.1.kind=5∧r.1∈ownB q.1 q.2∧s.met (q.1.ad,r.2,false)≠0
 fin:∀ k,M E k=false∧M (E+1) k=false
section
variable {I:Nat→Option Ins} {P:List (Un × Nat)} {E:Nat} {t:List Int} {at_:Nat} {s:St} {M:Nat→Nat→Bool} {T:Option (Nat × Nat)} {j:Nat} {Pd:List (Nat × Nat)}
theorem Inv.clear {i k:Nat} (h:Inv I P E t s M (some (i,k)) j Pd) (hM:M i k=true):Inv I P E t s M none 0 Pd:=by
 refine ⟨fun q hq k' hm=>?_,h.dec,h.own,fun i' k' x hx h2 hm r hr=>?_,h.pend,h.fin⟩
 ·rcases h.beg q hq k' hm with h1 | ⟨h1,-⟩
  ·exact .inl h1
  ·simp only [zzd,Prod.mk.injEq] at h1
   obtain ⟨rfl,rfl⟩:=h1
   exact .inl hM
 ·rcases h.next i' k' x hx h2 hm r hr with h1 | h1
  ·exact .inl h1
  ·simp only [zzd] at h1
   subst h1
   exact .inl hM
theorem Inv.weak (h:Inv I P E t s M none 0 Pd) (T:Option (Nat × Nat)) (j:Nat):Inv I P E t s M T j Pd :=
 ⟨fun q hq k hm=>Or.inl ((h.beg q hq k hm).elim id (fun e=>nomatch e.1)),h.dec,h.own,fun i k x hx h2 hm r hr=>Or.inl ((h.next i k x hx h2 hm r hr).elim id (fun e=>nomatch e)),h.pend,h.fin⟩
theorem Inv.drop {Q:List (Nat × Nat)} (h:Inv I P E t s M T j (Q++Pd)):Inv I P E t s M T j Pd :=
 ⟨h.beg,h.dec,h.own,h.next,fun r hr=>h.pend r (zzV _ hr),h.fin⟩
theorem Inv.mark (h:Inv I P E t s M none 0 Pd) {m:Mark} (hb:∀ q∈P,∀ k,m=(q.1.ad,k,false)→M q.2 k=true) (hd:∀ q∈P,∀ k,m=(q.1.ad,k,true)→∀ i∈ownB q.1 q.2,M i k=true):Inv I P E t (s.mark m) M none 0 Pd:=by
 refine ⟨fun q hq k hm=>?_,fun q hq k hm=>?_,fun q hq i hi k hm=>met_mark (h.own q hq i hi k hm),h.next,fun r hr=>?_,h.fin⟩
 ·rcases mark_back hm with h1 | h1
  ·exact h.beg q hq k h1
  ·exact .inl (hb q hq k h1.symm)
 ·rcases mark_back hm with h1 | h1
  ·exact h.dec q hq k h1
  ·exact hd q hq k h1.symm
 ·obtain ⟨h1,q,hq,h2,h3,h4⟩:=h.pend r hr
  exact ⟨h1,q,hq,h2,h3,met_mark h4⟩
theorem Inv.mark_beg (L:Lay I P E) {n:Un} {b pl:Nat} (h:Inv I P E t s M (some (b,pl)) j Pd) (hn:(n,b)∈P) (hj:j≤n.ad):Inv I P E t (s.mark (n.ad,pl,false)) M (some (b,pl)) (n.ad+1) Pd:=by
 refine ⟨fun q hq k hm=>?_,fun q hq k hm=>?_,fun q hq i hi k hm=>met_mark (h.own q hq i hi k hm),h.next,fun r hr=>?_,h.fin⟩
 ·rcases mark_back hm with h1 | h1
  ·rcases h.beg q hq k h1 with h2 | ⟨h2,h3⟩
   ·exact .inl h2
   ·exact .inr ⟨h2,by omega⟩
  ·simp only [Prod.mk.injEq,and_true] at h1
   obtain ⟨h1,rfl⟩:=h1
   obtain rfl:=L.ad q hq _ hn h1
   exact .inr ⟨rfl,by simp⟩
 ·rcases mark_back hm with h1 | h1
  ·exact h.dec q hq k h1
  ·simp at h1
 ·obtain ⟨h1,q,hq,h2,h3,h4⟩:=h.pend r hr
  exact ⟨h1,q,hq,h2,h3,met_mark h4⟩
theorem Inv.step (L:Lay I P E) {i k:Nat} {x:Ins} (h:Inv I P E t s M (some (i,k)) j Pd) (hx:I i=some x) (h5:x.op≠5) (h2:x.op≠2) (h3:x.op=3→x.arg≠1) {T':Option (Nat × Nat)} (hT:∀ r∈nexts t x k,T'=some r) :
  Inv I P E t s (setM M i k) T' 0 Pd:=by
 have nown:∀ q∈P,i ∉ ownB q.1 q.2:=fun q hq hi=>by
  obtain ⟨y,hy,ho⟩:=L.own_op hq hi
  rw [hx] at hy
  simp only [zzd] at hy
  subst hy
  exact h2 ho
 refine ⟨fun q hq k' hm=>?_,fun q hq k' hm i' hi'=>setM_old _ _ (h.dec q hq k' hm i' hi'),fun q hq i' hi' k' hm=>?_,fun i' k' y hy hy2 hm r hr=>?_,fun r hr=>?_,fun k'=>?_⟩
 ·rcases h.beg q hq k' hm with h1 | ⟨h1,-⟩
  ·exact .inl (setM_old _ _ h1)
  ·simp only [zzd,Prod.mk.injEq] at h1
   obtain ⟨rfl,rfl⟩:=h1
   exact .inl (setM_self _ _ _)
 ·rcases setM_iff.1 hm with h1 | ⟨rfl,rfl⟩
  ·exact h.own q hq i' hi' k' h1
  ·exact absurd hi' (nown q hq)
 ·rcases setM_iff.1 hm with h1 | ⟨rfl,rfl⟩
  ·rcases h.next i' k' y hy hy2 h1 r hr with h4 | h4
   ·exact .inl (setM_old _ _ h4)
   ·simp only [zzd] at h4
    subst h4
    exact .inl (setM_self _ _ _)
  ·rw [hx] at hy
   simp only [zzd] at hy
   subst hy
   exact .inr (hT r hr)
 ·obtain ⟨h1,q,hq,g2,g3,g4⟩:=h.pend r hr
  refine ⟨?_,q,hq,g2,g3,g4⟩
  unfold setM
  rw [if_neg (fun e=>nown q hq (by rw [←e.1];exact g3))]
  exact h1
 ·have h1:=h.fin k'
  unfold setM
  rw [if_neg (fun e=>by
   have e:=e.1
   subst e
   rw [L.fin] at hx
   simp only [zzd] at hx
   subst hx
   exact h3 rfl rfl),if_neg (fun e=>by
   have e:=e.1
   subst e
   rw [L.mat] at hx
   simp only [zzd] at hx
   subst hx
   exact h5 rfl)]
  exact h1
theorem Inv.step2 (L:Lay I P E) {i k:Nat} {q:Un × Nat} {s':St} (h:Inv I P E t s M (some (i,k)) j Pd) (hq:q∈P) (hi:i∈ownB q.1 q.2) (hp:(i,k) ∉ Pd) (hv:s'.met (q.1.ad,k,dB q.1)≠0)
  (hmono:∀ m,s.met m≠0→s'.met m≠0) (hnew:∀ m,s'.met m≠0→s.met m≠0∨(m=(q.1.ad,k,true)∧∀ i'∈ownB q.1 q.2,i'=i)) :
  Inv I P E t s' (setM M i k) none 0 Pd:=by
 obtain ⟨x,hx,hx2⟩:=L.own_op hq hi
 refine ⟨fun r hr k' hm=>?_,fun r hr k' hm i' hi'=>?_,fun r hr i' hi' k' hm=>?_,fun i' k' y hy hy2 hm r hr=>?_,fun r hr=>?_,fun k'=>?_⟩
 ·rcases hnew _ hm with h0 | ⟨h0,-⟩
  ·rcases h.beg r hr k' h0 with h1 | ⟨h1,-⟩
   ·exact .inl (setM_old _ _ h1)
   ·simp only [zzd,Prod.mk.injEq] at h1
    obtain ⟨rfl,rfl⟩:=h1
    exact .inl (setM_self _ _ _)
  ·simp at h0
 ·rcases hnew _ hm with h0 | ⟨h0,h1⟩
  ·exact setM_old _ _ (h.dec r hr k' h0 i' hi')
  ·simp only [Prod.mk.injEq,and_true] at h0
   obtain ⟨h0,rfl⟩:=h0
   obtain rfl:=L.ad r hr q hq h0
   rw [h1 i' hi']
   exact setM_self _ _ _
 ·rcases setM_iff.1 hm with h1 | ⟨rfl,rfl⟩
  ·exact hmono _ (h.own r hr i' hi' k' h1)
  ·obtain rfl:=L.own r hr q hq i' hi' hi
   exact hv
 ·rcases setM_iff.1 hm with h1 | ⟨rfl,rfl⟩
  ·rcases h.next i' k' y hy hy2 h1 r hr with h4 | h4
   ·exact .inl (setM_old _ _ h4)
   ·simp only [zzd] at h4
    subst h4
    exact .inl (setM_self _ _ _)
  ·rw [hx] at hy
   simp only [zzd] at hy
   subst hy
   exact absurd hx2 hy2
 ·obtain ⟨h1,q',hq',g2,g3,g4⟩:=h.pend r hr
  refine ⟨?_,q',hq',g2,g3,hmono _ g4⟩
  unfold setM
  rw [if_neg (fun e=>hp (by rw [←e.1,←e.2];exact hr))]
  exact h1
 ·have h1:=h.fin k'
  unfold setM
  rw [if_neg (fun e=>by
   have e:=e.1
   subst e
   rw [L.fin] at hx
   simp only [zzd] at hx
   subst hx
   simp at hx2),if_neg (fun e=>by
   have e:=e.1
   subst e
   rw [L.mat] at hx
   simp only [zzd] at hx
   subst hx
   simp at hx2)]
  exact h1
end
end Mean
end Go.Proofs.Ytkhkllpdhnmhkaa
namespace Go.Proofs.Ytkhkllpdhnmhkaa.Tr
open Go.Proofs.Ytkhkllpdhnmhkaa.Mach
def Late (x:Ins):Prop:=(x.op=6∨x.op=5∨1≤x.x)∧(x.op=2→1≤x.y)∧(x.op=3→1≤x.arg)
theorem late_alt {z:Bool} {x y:Nat} (hx:1≤x) (hy:1≤y):Late (altI z x y):=by
 unfold altI Late
 cases z <;> simp <;> omega
theorem codes_late (l:List Tr) (ih:∀ s∈l,allB s=true→∀ b,1≤b→∀ x∈codeS s b,Late x) (h:∀ s∈l,allB s=true):∀ b,1≤b→∀ x∈codesS l b,Late x:=by
 induction l with
 | nil=>intro b _ x hx;cases hx
 | cons t l ihl =>
  intro b hb x hx
  rw [codesS] at hx
  rcases zzM.1 hx with hx | hx
  ·exact ih t zzH (h t zzH) b hb x hx
  ·exact ihl (fun s hs=>ih s (zzI _ hs)) (fun s hs=>h s (zzI _ hs)) _ (by omega) x hx
theorem alts_late (l:List Tr) (ih:∀ s∈l,allB s=true→∀ b,1≤b→∀ x∈codeS s b,Late x) (h:∀ s∈l,allB s=true):∀ b e,1≤b→1≤e→∀ x∈altS l b e,Late x:=by
 induction l with
 | nil=>intro b e _ _ x hx;cases hx
 | cons t l ihl =>
  intro b e hb he x hx
  rw [altS] at hx
  split at hx
  ·exact ih t zzH (h t zzH) b hb x hx
  ·rcases zzN.1 hx with rfl | hx
   ·unfold Late;simp;omega
   rcases zzM.1 hx with hx | hx
   ·exact ih t zzH (h t zzH) _ (by omega) x hx
   rcases zzN.1 hx with rfl | hx
   ·unfold Late;simp;omega
   ·exact ihl (fun s hs=>ih s (zzI _ hs)) (fun s hs=>h s (zzI _ hs)) _ e (by omega) he x hx
theorem code_late:∀ t:Tr,allB t=true→∀ b,1≤b→∀ x∈codeS t b,Late x:=by
 intro t
 induction t using Tr.ind with
 | h t ih =>
  intro h b hb x hx
  cases kinds h with
  | empty =>
   rw [emptyT,codeS,if_neg (by decide),if_neg (by decide),if_neg (by decide),if_neg (by decide),if_neg (by decide)] at hx
   cases hx
  | cls r hr =>
   rw [codeS,if_pos rfl] at hx
   split at hx <;> (rw [zzE] at hx;subst hx;unfold Late;simp <;> omega)
  | ass a ha =>
   rw [codeS,if_neg (by decide),if_pos rfl,zzE] at hx
   subst hx;unfold Late;simp;omega
  | cat l h2 hs =>
   rw [catT,codeS,if_neg (by decide),if_neg (by decide),if_neg (by decide),if_neg (by decide),if_neg (by decide)] at hx
   exact codes_late l ih hs b hb x hx
  | alt l h2 hs =>
   rw [altT,codeS,if_neg (by decide),if_neg (by decide),if_neg (by decide),if_pos rfl] at hx
   exact alts_late l ih hs b _ hb (by omega) x hx
  | rep y n m z hy h0 h1 hm =>
   have hl:∀ s∈[y],allB s=true:=by intro s hs;rw [zzE] at hs;rw [hs];exact hy
   rw [repT,codeS,if_neg (by decide),if_neg (by decide),if_neg (by decide),if_neg (by decide),if_pos rfl] at hx
   split at hx
   ·rcases zzM.1 hx with hx | hx
    ·exact codes_late [y] ih hl b hb x hx
    ·rw [zzE] at hx;subst hx;exact late_alt hb (by omega)
   ·split at hx
    ·rcases zzN.1 hx with rfl | hx
     ·exact late_alt (by omega) (by omega)
     rcases zzM.1 hx with hx | hx
     ·exact codes_late [y] ih hl _ (by omega) x hx
     ·rw [zzE] at hx;subst hx;unfold Late;simp;omega
    ·rcases zzN.1 hx with rfl | hx
     ·exact late_alt (by omega) (by omega)
     ·exact codes_late [y] ih hl _ (by omega) x hx
  | group y i s hy h0 h1 hm =>
   have hl:∀ s∈[y],allB s=true:=by intro s hs;rw [zzE] at hs;rw [hs];exact hy
   rw [groupT,codeS,if_neg (by decide),if_neg (by decide),if_pos rfl] at hx
   rcases zzN.1 hx with rfl | hx
   ·unfold Late;simp;omega
   rcases zzM.1 hx with hx | hx
   ·exact codes_late [y] ih hl _ (by omega) x hx
   ·rw [zzE] at hx;subst hx;unfold Late;simp;omega
theorem prog_late {s:Tr} (h:allB s=true) {i:Nat} (hi:i≠0) {x:Ins} (hx:(progL s)[i]?=some x):Late x:=by
 unfold progL at hx
 obtain ⟨j,rfl⟩:∃ j,i=j+1:=⟨i - 1,by omega⟩
 rw [zzX] at hx
 rcases zzM.1 (zzL hx) with hm | hm
 ·exact code_late s h 1 (zzF _) x hm
 ·rcases zzN.1 hm with rfl | hm
  ·unfold Late;simp;omega
  ·rw [zzE] at hm;subst hm;unfold Late;simp
end Go.Proofs.Ytkhkllpdhnmhkaa.Tr
namespace Go.Proofs.Ytkhkllpdhnmhkaa.Mach
open Go.Proofs.Ytkhkllpdhnmhkaa.Tr
section
variable {s0:Tr.Tr} {c:Int} {t:List Int} {b:Nat}
def Zero (b:Nat) (s:MS):Prop:=(s.todo=[]∧s.fin=none)∨∃ js old,s.todo=js++[.back 0 old]∧(∀ j∈js,(∀ o,j≠.back 0 o)∧∀ k,j≠.pair 0 k)∧s.caps[0]?=some (b:Int)
theorem nexts_late {x:Ins} (h:Late x) {k:Nat} {q:Nat × Nat} (hq:q∈nexts t x k):q.1≠0:=by
 unfold nexts at hq
 obtain ⟨h1,h2,h3⟩:=h
 repeat' split at hq
 all_goals simp at hq
 all_goals first | (subst hq;simp only [];omega) | (rcases hq with rfl | rfl <;> (simp only [];omega))
theorem Zero.step (h0:allB s0=true) {a:Nat} {s:MS} (h:Zero b s):Zero b (mstep ⟨progL s0,0,c⟩ t a s):=by
 by_cases hh:halted s
 ·rw [halt_stay _ t a hh];exact h
 unfold halted at hh
 simp only [not_or,ne_eq,Classical.not_not] at hh
 obtain ⟨hf,ht⟩:=hh
 rcases h with h | ⟨js,old,h1,h2,h3⟩
 ·exact absurd h.1 ht
 match js,h1,h2 with
 | [],h1,_ =>
  rw [mstep_back hf h1]
  exact .inl ⟨rfl,hf⟩
 | .back c' o :: js,h1,h2 =>
  rw [mstep_back hf h1]
  have hc:c'≠0:=fun e=>(h2 _ zzH).1 o (by rw [e])
  exact .inr ⟨js,old,rfl,fun j hj=>h2 j (zzI _ hj),by simp only [];rw [List.getElem?_set_ne hc];exact h3⟩
 | .pair i k :: js,h1,h2 =>
  have hi:i≠0:=fun e=>(h2 _ zzH).2 k (by rw [e])
  cases hq:s.met.getD (bitOf t a i k) true with
  | true =>
   rw [mstep_met hf h1 hq]
   exact .inr ⟨js,old,rfl,fun j hj=>h2 j (zzI _ hj),h3⟩
  | false =>
   cases hx:(progL s0)[i]? with
   | none =>
    have e:mstep ⟨progL s0,0,c⟩ t a s={ s with todo:=js++[.back 0 old] }:=by
     unfold mstep;rw [hf,h1];simp only [List.cons_append,hq,hx,Bool.false_eq_true,if_false]
    rw [e]
    exact .inr ⟨js,old,rfl,fun j hj=>h2 j (zzI _ hj),h3⟩
   | some x =>
    have hl:=prog_late h0 hi hx
    have e:=mstep_pair (p:=⟨progL s0,0,c⟩) (t:=t) (at_:=a) hf h1 hq hx
    rw [eff_eq] at e
    simp only [] at e
    rw [e]
    refine .inr ⟨jobs (nexts t x k)++(under x s.caps++js),old,by simp [List.append_assoc],fun j hj=>?_,?_⟩
    ·rcases zzM.1 hj with hj | hj
     ·obtain ⟨q,hqm,rfl⟩:=List.mem_map.1 hj
      refine ⟨fun o=>by simp,fun k' e=>?_⟩
      simp only [Job.pair.injEq] at e
      exact nexts_late hl hqm e.1
     rcases zzM.1 hj with hj | hj
     ·unfold under at hj
      split at hj
      ·rename_i h3'
       rw [zzE] at hj
       subst hj
       refine ⟨fun o e=>?_,fun k'=>by simp⟩
       simp only [Job.back.injEq] at e
       have:=hl.2.2 h3'
       omega
      ·cases hj
     ·exact h2 j (zzI _ hj)
    ·simp only []
     unfold capsAt
     split
     ·rename_i h3'
      have:=hl.2.2 h3'
      rw [List.getElem?_set_ne (by omega)]
      exact h3
     ·exact h3
theorem Zero.iter_ (h0:allB s0=true) {a:Nat}:∀ (n:Nat) {s:MS},Zero b s→Zero b (iter ⟨progL s0,0,c⟩ t a n s)
 | 0,_,h=>h
 | n+1,_,h=>Zero.iter_ h0 n (h.step h0)
end
end Go.Proofs.Ytkhkllpdhnmhkaa.Mach
namespace Go.Proofs.Ytkhkllpdhnmhkaa.Mach
section
variable {p:Prg} {t:List Int} {a:Int}
def oneR (p:Prg) (t:List Int) (i:Nat):Option (List Int × Int):=(oneAt p t i).fin.map fun w=>((oneAt p t i).caps,w)
structure Told (p:Prg) (t:List Int) (a:Int):Prop where
 len:t.length≤4194304
 chk:checkB p=true
 a0:0≤a
 a1:a≤t.length
 one:∀ i:Nat,a.toNat≤i→i≤t.length→runR p t (i:Int) true=(0,oneR p t i,(oneAt p t i).steps)
 s0:1≤(runR p t a false).2.2
 s1:1≤(runR p t a true).2.2
 s2:(runR p t a false).2.2≤p.insts.length*(t.length - a.toNat+1)
 s3:(runR p t a true).2.2≤(runR p t a false).2.2
 room:p.insts.length*(t.length - a.toNat+1)≤16777216
 tells:((runR p t a false).2.1=none∧∀ i,a.toNat≤i→i≤t.length→oneR p t i=none)∨(∃ j,(runR p t a false).2.1=oneR p t j∧(oneR p t j).isSome=true∧a.toNat≤j∧j≤t.length∧∀ i,a.toNat≤i→i < j→oneR p t i=none)
theorem Told.same (h:Told p t a):(runR p t a true).1=0:=by
 have h0:=h.one a.toNat (zzF _) (by have:=h.a1;have:=h.a0;omega)
 rw [Int.toNat_of_nonneg h.a0] at h0
 rw [h0]
end
end Go.Proofs.Ytkhkllpdhnmhkaa.Mach
