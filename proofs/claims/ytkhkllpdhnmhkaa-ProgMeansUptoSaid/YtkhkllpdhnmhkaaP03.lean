/- Each node of an unfolded tree stands in one place: so the walker finds all Ends. No program here. -/
import Derived.BigQuiet
import Derived.BigRegion
import Derived.Deep.QuietTactic
import Derived.Test.YtkhkllpdhnmhkaaP02
namespace Go.Proofs.Ytkhkllpdhnmhkaa.Mean
open Go.Proofs.Ytkhkllpdhnmhkaa.Mach
def kidK (n:Un) (K:Kt):Kt:=if n.kind=7 then .grp n.ix K else if n.kind=-2∨n.kind=-3 then .dec n K else K
mutual
def posU:Un→Kt→List (Un × Kt)
 | .mk a k r b i z l,K=>(.mk a k r b i z l,K) :: (if k=4 then posR l K else posA l (kidK (.mk a k r b i z l) K))
def posR:List Un→Kt→List (Un × Kt)
 | [],_=>[]
 | s :: l,K=>posU s (.row l K)++posR l K
def posA:List Un→Kt→List (Un × Kt)
 | [],_=>[]
 | s :: l,K=>posU s K++posA l K
end
def kids (n:Un) (K:Kt):List (Un × Kt):=if n.kind=4 then posR n.subs K else posA n.subs (kidK n K)
theorem posU_eq (n:Un) (K:Kt):posU n K=(n,K) :: kids n K:=by cases n;rw [posU];rfl
theorem Un.ind {P:Un→Prop} (h:∀ u,(∀ s∈u.subs,P s)→P u):∀ u,P u:=fun u =>
 Un.rec (motive_1:=P) (motive_2:=fun l=>∀ s∈l,P s) (fun a k r b i z l ih=>h (.mk a k r b i z l) ih) (by simp) (fun a l ha hl=>by intro s hs;rcases zzN.1 hs with rfl | hs;exact ha;exact hl s hs) u
theorem pos_ads:∀ (u:Un) (K:Kt),(posU u K).map (fun q=>q.1.ad)=u.all.map Un.ad:=by
 intro u
 induction u using Un.ind with
 | h u ih =>
  intro K
  have hR:∀ (l:List Un),(∀ s∈l,∀ K,(posU s K).map (fun q=>q.1.ad)=s.all.map Un.ad)→∀ K,(posR l K).map (fun q=>q.1.ad)=(allU l).map Un.ad:=by
   intro l
   induction l with
   | nil=>intro _ K;rfl
   | cons s l ihl =>
    intro h K
    rw [posR,allU,zzT,zzT,h s zzH,ihl fun x hx=>h x (zzI _ hx)]
  have hA:∀ (l:List Un),(∀ s∈l,∀ K,(posU s K).map (fun q=>q.1.ad)=s.all.map Un.ad)→∀ K,(posA l K).map (fun q=>q.1.ad)=(allU l).map Un.ad:=by
   intro l
   induction l with
   | nil=>intro _ K;rfl
   | cons s l ihl =>
    intro h K
    rw [posA,allU,zzT,zzT,h s zzH,ihl fun x hx=>h x (zzI _ hx)]
  rw [posU_eq,all_subs,zzS,zzS]
  unfold kids
  split
  ·rw [hR u.subs ih]
  ·rw [hA u.subs ih]
theorem posR_sub {l:List Un} {K:Kt} {s:Un} {b:List Un} {a:List Un} (h:l=a++s :: b):∀ q∈posU s (.row b K),q∈posR l K:=by
 subst h
 induction a with
 | nil=>intro q hq;rw [List.nil_append,posR];exact zzW _ hq
 | cons x a ih=>intro q hq;rw [List.cons_append,posR];exact zzV _ (ih q hq)
theorem posA_sub {l:List Un} {K:Kt} {s:Un} (h:s∈l):∀ q∈posU s K,q∈posA l K:=by
 induction l with
 | nil=>cases h
 | cons x l ih =>
  intro q hq
  rw [posA]
  rcases zzN.1 h with rfl | h
  ·exact zzW _ hq
  ·exact zzV _ (ih h q hq)
theorem mem_posR {l:List Un} {K:Kt} {q:Un × Kt} (h:q∈posR l K):∃ a s b,l=a++s :: b∧q∈posU s (.row b K):=by
 induction l with
 | nil=>cases h
 | cons x l ih =>
  rw [posR] at h
  rcases zzM.1 h with h | h
  ·exact ⟨[],x,l,rfl,h⟩
  ·obtain ⟨a,s,b,e,h2⟩:=ih h
   exact ⟨x :: a,s,b,by rw [e];rfl,h2⟩
theorem mem_posA {l:List Un} {K:Kt} {q:Un × Kt} (h:q∈posA l K):∃ s∈l,q∈posU s K:=by
 induction l with
 | nil=>cases h
 | cons x l ih =>
  rw [posA] at h
  rcases zzM.1 h with h | h
  ·exact ⟨x,zzH,h⟩
  ·obtain ⟨s,hs,h⟩:=ih h
   exact ⟨s,zzI _ hs,h⟩
theorem pos_trans:∀ (u:Un) (K:Kt) (n:Un) (K':Kt),(n,K')∈posU u K→∀ q∈posU n K',q∈posU u K:=by
 intro u
 induction u using Un.ind with
 | h u ih =>
  intro K n K' hn q hq
  rw [posU_eq] at hn
  rcases zzN.1 hn with e | hn
  ·simp only [Prod.mk.injEq] at e
   obtain ⟨rfl,rfl⟩:=e
   exact hq
  rw [posU_eq]
  refine zzI _ ?_
  unfold kids at hn ⊢
  split at hn
  ·rename_i h4
   rw [if_pos h4]
   obtain ⟨a,s,b,hs,hm⟩:=mem_posR hn
   exact posR_sub hs q (ih s (by rw [hs];simp) _ n K' hm q hq)
  ·rename_i h4
   rw [if_neg h4]
   obtain ⟨s,hs,hm⟩:=mem_posA hn
   exact posA_sub hs q (ih s hs _ n K' hm q hq)
section
variable {t:List Int} {root:Un}
def InT (root:Un) (n:Un) (K:Kt):Prop:=(n,K)∈posU root .top
theorem inT_kid {n:Un} {K:Kt} (h:InT root n K) {q:Un × Kt} (hq:q∈kids n K):InT root q.1 q.2 :=
 pos_trans root .top n K h q (by rw [posU_eq];exact zzI _ hq)
theorem self_pos (n:Un) (K:Kt):(n,K)∈posU n K:=by rw [posU_eq];exact zzH
theorem inT_row {n:Un} {K:Kt} (h:InT root n K) (h4:n.kind=4) {a b:List Un} {s:Un} (hs:n.subs=a++s :: b):InT root s (.row b K) :=
 inT_kid h (q:=(s,.row b K)) (by unfold kids;rw [if_pos h4];exact posR_sub hs _ (self_pos s _))
theorem inT_sub {n:Un} {K:Kt} (h:InT root n K) (h4:n.kind≠4) {s:Un} (hs:s∈n.subs):InT root s (kidK n K) :=
 inT_kid h (q:=(s,kidK n K)) (by unfold kids;rw [if_neg h4];exact posA_sub hs _ (self_pos s _))
theorem rowSt_of {n:Un} {K:Kt} (h:InT root n K) (h4:n.kind=4):∀ {b a:List Un},n.subs=a++b→rowSt (InT root) K b
 | [],_,_=>trivial
 | s :: b,a,hs=>⟨inT_row h h4 hs,rowSt_of h h4 (a:=a++[s]) (by rw [hs];simp)⟩
theorem behind_of:∀ (u:Un) (K:Kt),InT root u K→KSt (InT root) K→∀ n K',(n,K')∈posU u K→KSt (InT root) K':=by
 intro u
 induction u using Un.ind with
 | h u ih =>
  intro K hu hK n K' hn
  rw [posU_eq] at hn
  rcases zzN.1 hn with e | hn
  ·simp only [Prod.mk.injEq] at e
   rw [e.2];exact hK
  unfold kids at hn
  split at hn
  ·rename_i h4
   obtain ⟨a,s,b,hs,hm⟩:=mem_posR hn
   have hs1:=inT_row hu h4 hs
   exact ih s (by rw [hs];simp) _ hs1 ⟨rowSt_of hu h4 (a:=a++[s]) (by rw [hs];simp),hK⟩ n K' hm
  ·rename_i h4
   obtain ⟨s,hs,hm⟩:=mem_posA hn
   have hs1:=inT_sub hu h4 hs
   refine ih s hs _ hs1 ?_ n K' hm
   unfold kidK
   split
   ·exact hK
   ·split
    ·rename_i hl;exact ⟨⟨hu,hl⟩,hK⟩
    ·exact hK
theorem nodup_one {α β:Type} {f:α→β}:∀ {l:List α},(l.map f).Nodup→∀ {x y:α},x∈l→y∈l→f x=f y→x=y
 | [],_,x,_,hx,_,_=>by cases hx
 | a :: l,hn,x,y,hx,hy,e=>by
  rw [zzS,List.nodup_cons] at hn
  rcases zzN.1 hx with hx1 | hx1
  ·rcases zzN.1 hy with hy1 | hy1
   ·rw [hx1,hy1]
   ·exact absurd (by rw [←hx1,e];exact List.mem_map_of_mem hy1) hn.1
  ·rcases zzN.1 hy with hy1 | hy1
   ·exact absurd (by rw [←hy1,←e];exact List.mem_map_of_mem hx1) hn.1
   ·exact nodup_one hn.2 hx1 hy1 e
theorem place_of (hd:(root.all.map Un.ad).Nodup):Place t (InT root) where
 one:=fun n K n' K' h1 h2 e=>by
  have hd2:((posU root .top).map fun q=>q.1.ad).Nodup:=by rw [pos_ads];exact hd
  have:=nodup_one hd2 h1 h2 e
  simp only [Prod.mk.injEq] at this
  exact this
 first:=fun n K h pl nt x hx=>by
  have hb:=behind_of root .top (self_pos root .top) trivial n K h
  unfold first at hx
  by_cases k1:n.kind=1
  ·rw [if_pos k1,zzE] at hx;subst hx;exact hb
  rw [if_neg k1] at hx
  by_cases k2:n.kind=2
  ·rw [if_pos k2] at hx
   split at hx
   ·rw [zzE] at hx;subst hx;exact hb
   ·cases hx
  rw [if_neg k2] at hx
  by_cases k3:n.kind=3
  ·rw [if_pos k3] at hx
   split at hx
   ·rw [zzE] at hx;subst hx;exact hb
   ·cases hx
  rw [if_neg k3] at hx
  by_cases k4:n.kind=4
  ·rw [if_pos k4,zzE] at hx;subst hx
   cases hs:n.subs with
   | nil=>exact hb
   | cons s l=>exact inT_row (a:=[]) h k4 hs
  rw [if_neg k4] at hx
  by_cases k5:n.kind=5
  ·rw [if_pos k5] at hx
   obtain ⟨s,hs,rfl⟩:=List.mem_map.1 hx
   have:=inT_sub h k4 hs
   unfold kidK at this
   rw [if_neg (by rw [k5];decide),if_neg (by rw [k5];decide)] at this
   exact this
  rw [if_neg k5] at hx
  by_cases k7:n.kind=7
  ·rw [if_pos k7] at hx
   split at hx
   ·cases hx
   ·rename_i s l hs
    rw [zzE] at hx;subst hx
    have:=inT_sub h k4 (s:=s) (by rw [hs];exact zzH)
    unfold kidK at this
    rw [if_pos k7] at this
    exact this
  rw [if_neg k7] at hx
  by_cases m1:n.kind=-1
  ·rw [if_pos m1] at hx
   unfold choose at hx
   split at hx
   ·cases hx
   ·rename_i s l hs
    have:=inT_sub h k4 (s:=s) (by rw [hs];exact zzH)
    unfold kidK at this
    rw [if_neg k7,if_neg (by rw [m1];decide)] at this
    split at hx <;> (simp only [zzN,List.not_mem_nil,or_false] at hx;rcases hx with rfl | rfl)
    ·exact hb
    ·exact this
    ·exact this
    ·exact hb
  rw [if_neg m1] at hx
  by_cases m2:n.kind=-2
  ·rw [if_pos m2,zzE] at hx;subst hx;exact ⟨h,.inl m2⟩
  rw [if_neg m2] at hx
  by_cases m3:n.kind=-3
  ·rw [if_pos m3] at hx
   split at hx
   ·cases hx
   ·rename_i s l hs
    rw [zzE] at hx;subst hx
    have:=inT_sub h k4 (s:=s) (by rw [hs];exact zzH)
    unfold kidK at this
    rw [if_neg k7,if_pos (.inr m3)] at this
    exact this
  rw [if_neg m3] at hx
  cases hx
 decide:=fun n K h hl pl nt x hx=>by
  have hb:=behind_of root .top (self_pos root .top) trivial n K h
  have k4:n.kind≠4:=by rcases hl with e | e <;> rw [e] <;> decide
  have k7:n.kind≠7:=by rcases hl with e | e <;> rw [e] <;> decide
  unfold choose at hx
  split at hx
  ·cases hx
  ·rename_i s l hs
   have hk:=inT_sub h k4 (s:=s) (by rw [hs];exact zzH)
   unfold kidK at hk
   rw [if_neg k7,if_pos (show n.kind=-2∨n.kind=-3 from hl)] at hk
   split at hx <;> (simp only [zzN,List.not_mem_nil,or_false] at hx;rcases hx with rfl | rfl)
   ·exact hb
   ·exact hk
   ·exact hk
   ·exact hb
 behind:=fun n K h=>behind_of root .top (self_pos root .top) trivial n K h
variable {at_ pl:Nat} {nt:List Int}
end
end Go.Proofs.Ytkhkllpdhnmhkaa.Mean
namespace Go.Proofs.Ytkhkllpdhnmhkaa.Mach
section
variable (p:Prg) (t:List Int) (at_:Nat)
def JobOk:Job→Prop
 | .pair i k=>i < p.insts.length∧at_≤k∧k≤t.length
 | .back c _=>c < p.caps.toNat
structure Ok (s:MS):Prop where
 met:s.met.length=p.insts.length*places t at_
 caps:s.caps.length=p.caps.toNat
 jobs:∀ j∈s.todo,JobOk p t at_ j
 room:3*unmet s+s.todo.length≤3*s.met.length+2
 steps:s.steps+unmet s≤s.met.length
variable {p t at_}
theorem bit_lt {i k:Nat} (h:JobOk p t at_ (.pair i k)):bitOf t at_ i k < p.insts.length*places t at_:=by
 obtain ⟨h1,h2,h3⟩:=h
 unfold bitOf places
 have:(i+1)*(t.length - at_+1)≤p.insts.length*(t.length - at_+1):=Nat.mul_le_mul_right _ h1
 rw [Nat.succ_mul] at this
 omega
theorem may_of (hc:checkB p=true) {i:Nat} {x:Ins} (hx:p.insts[i]?=some x):mayB x p.insts.length p.caps=true:=by
 unfold checkB at hc
 rw [zzc,List.all_eq_true] at hc
 exact hc.2 x (zzL hx)
theorem toNat_lt {x:Int} {n:Nat} (h0:0≤x) (h:x < n):x.toNat < n:=by omega
theorem may_x {x:Ins} {n:Nat} {caps:Int} (h:mayB x n caps=true) (ho:x.op=1∨x.op=2∨x.op=3∨x.op=4∨x.op=7):0≤x.x∧x.x < n:=by
 unfold mayB at h
 rcases ho with e | e | e | e | e <;> simp [e] at h <;> omega
theorem may_y {x:Ins} {n:Nat} {caps:Int} (h:mayB x n caps=true) (ho:x.op=2):0≤x.y∧x.y < n:=by
 unfold mayB at h
 simp [ho] at h;omega
theorem may_arg {x:Ins} {n:Nat} {caps:Int} (h:mayB x n caps=true) (ho:x.op=3):0≤x.arg∧x.arg < caps:=by
 unfold mayB at h
 simp [ho] at h;omega
theorem may_as {x:Ins} {n:Nat} {caps:Int} (h:mayB x n caps=true) (ho:x.op=4):∃ j,j < 6∧x.arg=((2 ^ j:Nat):Int):=by
 unfold mayB at h
 simp [ho,isAs] at h
 obtain ⟨_,h⟩:=h
 rcases h with ((((h | h) | h) | h) | h) | h
 ·exact ⟨0,by omega,h⟩
 ·exact ⟨1,by omega,h⟩
 ·exact ⟨2,by omega,h⟩
 ·exact ⟨3,by omega,h⟩
 ·exact ⟨4,by omega,h⟩
 ·exact ⟨5,by omega,h⟩
theorem may_rng {x:Ins} {n:Nat} {caps:Int} (h:mayB x n caps=true) (ho:x.op=1):rightB x.rng=true:=by
 unfold mayB at h
 simp [ho] at h;exact h.2
theorem mstep_back {s:MS} {c:Nat} {old:Int} {r:List Job} (hf:s.fin=none) (ht:s.todo=.back c old :: r):mstep p t at_ s={ s with todo:=r,caps:=s.caps.set c old }:=by
 unfold mstep;rw [hf,ht]
theorem mstep_met {s:MS} {i k:Nat} {r:List Job} (hf:s.fin=none) (ht:s.todo=.pair i k :: r) (hm:s.met.getD (bitOf t at_ i k) true=true):mstep p t at_ s={ s with todo:=r }:=by
 unfold mstep;rw [hf,ht];simp only [hm,if_true]
theorem mstep_pair {s:MS} {i k:Nat} {r:List Job} {x:Ins} (hf:s.fin=none) (ht:s.todo=.pair i k :: r) (hm:s.met.getD (bitOf t at_ i k) true=false) (hx:p.insts[i]?=some x) :
  mstep p t at_ s=eff t x k { s with todo:=r,met:=s.met.set (bitOf t at_ i k) true,steps:=s.steps+1 }:=by
 unfold mstep;rw [hf,ht];simp only [hm,hx,Bool.false_eq_true,if_false]
theorem Ok.eff_ {x:Ins} {k:Nat} {s:MS} (hx:mayB x p.insts.length p.caps=true) (hk:at_≤k∧k≤t.length)
  (met:s.met.length=p.insts.length*places t at_) (caps:s.caps.length=p.caps.toNat) (jobs:∀ j∈s.todo,JobOk p t at_ j)
  (room:3*unmet s+s.todo.length≤3*s.met.length) (steps:s.steps+unmet s≤s.met.length):Ok p t at_ (eff t x k s):=by
 have hp:∀ {y:Int} {m:Nat},0≤y→y < p.insts.length→at_≤m→m≤t.length→JobOk p t at_ (.pair y.toNat m):=fun a b c d=>⟨by omega,c,d⟩
 have jx:(x.op=1∨x.op=2∨x.op=3∨x.op=4∨x.op=7)→∀ m,at_≤m→m≤t.length→JobOk p t at_ (.pair x.x.toNat m):=fun ho m a b=>hp (may_x hx ho).1 (may_x hx ho).2 a b
 unfold eff
 repeat' split
 all_goals
  refine ⟨met,?_,?_,?_,steps⟩
 all_goals first
  | exact caps
  | exact jobs
  | (simp only [unmet,zzO] at *;omega)
  | (simp only [List.length_set];exact caps)
  | skip
 all_goals intro j hj;simp only [zzN] at hj
 ·rename_i ho hc
  rcases hj with rfl | hj
  ·exact jx (.inl ho) _ (by omega) (by omega)
  ·exact jobs j hj
 ·rename_i _ ho
  rcases hj with rfl | rfl | hj
  ·exact jx (.inr (.inl ho)) _ hk.1 hk.2
  ·exact hp (may_y hx ho).1 (may_y hx ho).2 hk.1 hk.2
  ·exact jobs j hj
 ·rename_i _ _ ho
  rcases hj with rfl | rfl | hj
  ·exact jx (.inr (.inr (.inl ho))) _ hk.1 hk.2
  ·have:=may_arg hx ho
   show x.arg.toNat < p.caps.toNat
   omega
  ·exact jobs j hj
 ·rename_i _ _ _ ho _
  rcases hj with rfl | hj
  ·exact jx (.inr (.inr (.inr (.inl ho)))) _ hk.1 hk.2
  ·exact jobs j hj
 ·rename_i _ _ _ _ _ ho
  rcases hj with rfl | hj
  ·exact jx (.inr (.inr (.inr (.inr ho)))) _ hk.1 hk.2
  ·exact jobs j hj
theorem Ok.step {s:MS} (hc:checkB p=true) (h:Ok p t at_ s):Ok p t at_ (mstep p t at_ s):=by
 obtain ⟨todo,met,caps,steps,fin⟩:=s
 obtain ⟨hm,hcp,hj,hr,hs⟩:=h
 simp only [] at hm hcp hj hr hs
 cases fin with
 | some v=>exact ⟨hm,hcp,hj,hr,hs⟩
 | none =>
  match todo with
  | []=>exact ⟨hm,hcp,hj,hr,hs⟩
  | .back c old :: r =>
   rw [mstep_back rfl rfl]
   exact ⟨hm,by simpa using hcp,fun j h=>hj j (zzI _ h),by simp only [unmet,zzO] at *;omega,hs⟩
  | .pair i k :: r =>
   have hjk:=hj _ zzH
   by_cases hq:met.getD (bitOf t at_ i k) true=true
   ·rw [mstep_met rfl rfl hq]
    exact ⟨hm,hcp,fun j h=>hj j (zzI _ h),by simp only [unmet,zzO] at *;omega,hs⟩
   ·rw [Bool.not_eq_true] at hq
    obtain ⟨x,hx⟩:∃ x,p.insts[i]?=some x:=⟨_,zzJ hjk.1⟩
    rw [mstep_pair rfl rfl hq hx]
    have hcount:=count_set hq
    refine Ok.eff_ (may_of hc hx) hjk.2 (by simpa using hm) hcp (fun j h=>hj j (zzI _ h)) ?_ ?_
    ·simp only [unmet,zzO,List.length_set] at *;omega
    ·simp only [unmet,List.length_set] at *;omega
theorem Ok.start (hc:checkB p=true) (hat:at_≤t.length) {b:Nat} (hb:at_≤b∧b≤t.length) {met:List Bool} {steps:Nat} (hm:met.length=p.insts.length*places t at_) (hs:steps+met.count false≤met.length) :
  Ok p t at_ (begin_ p b met steps):=by
 unfold checkB headB at hc
 simp only [zzc,decide_eq_true_eq] at hc
 have:=hc.1
 have hcle:met.count false≤met.length:=List.count_le_length
 refine ⟨hm,by simp [begin_],?_,?_,hs⟩
 ·intro j hj
  simp only [begin_,zzE] at hj
  subst hj
  exact ⟨by omega,hb⟩
 ·simp only [begin_,unmet,zzO,List.length_nil];omega
end
end Go.Proofs.Ytkhkllpdhnmhkaa.Mach
namespace Go.Proofs.Ytkhkllpdhnmhkaa
open Mach
theorem head_of {p:Prg} (h:checkB p=true):1≤(p.insts.length:Int)∧(p.insts.length:Int)≤20000∧0≤p.start∧p.start < (p.insts.length:Int)∧2≤p.caps∧p.caps≤1002:=by
 unfold checkB headB at h
 simp only [zzc,decide_eq_true_eq] at h
 omega
theorem op_cases {x:Ins} {n caps:Int} (h:mayB x n caps=true):x.op=1∨x.op=2∨x.op=3∨x.op=4∨x.op=5∨x.op=6∨x.op=7:=by
 unfold mayB at h
 by_cases h1:x.op=1;· exact .inl h1
 by_cases h2:x.op=2;· exact .inr (.inl h2)
 by_cases h3:x.op=3;· exact .inr (.inr (.inl h3))
 by_cases h4:x.op=4;· exact .inr (.inr (.inr (.inl h4)))
 by_cases h5:x.op=5;· exact .inr (.inr (.inr (.inr (.inl h5))))
 by_cases h6:x.op=6;· exact .inr (.inr (.inr (.inr (.inr (.inl h6)))))
 by_cases h7:x.op=7;· exact .inr (.inr (.inr (.inr (.inr (.inr h7)))))
 simp [h1,h2,h3,h4,h5,h6,h7] at h
end Go.Proofs.Ytkhkllpdhnmhkaa
namespace Go.Proofs.Ytkhkllpdhnmhkaa
open Go.RowKit
set_option maxRecDepth 100000 in
set_option maxHeartbeats 2000000 in
theorem sameI9_any (A B:Option Addr) (m ac bc:Nat) (l:List Int) (w:World) (ha:Reads w w.heap.size 1 A m ac (l.map (Value.int .i64))) (hb:Reads w w.heap.size 1 B m bc (l.map (Value.int .i64))) :
  Calls Try.prog 11 #[.slice A m ac,.slice B m bc] w fun e w'=>e=.returned (.bool true)∧Below w.heap.size w w':=by
 have h1:=ha.1
 have h2:=ha.2.1
 have h3:=hb.1
 have h4:=hb.2.1
 have hl:l.length=m:=by have:=ha.len;simpa using this
 have HA:=zzA ha
 have HB:=zzA hb
 have HL:=zzA hl
 clear ha hb hl
 go_enter Try.func11,Try.ntmps11
 go_wp2_with fail
 go_loopw [5] (fun iv wr=>∃ i:Nat,i≤m∧iv=.int .i64 (i:Int)∧Below w.heap.size w wr) (fun iv _=>m - (intOf iv).toNat)
 case atStart=>exact ⟨0,zzZ _,rfl,zzb _ _⟩
 case round =>
  obtain ⟨i,hi,rfl,hbw⟩:=hrel
  have HBW:=zzA hbw
  by_cases hlt:i < m
  ·have hlt2:(i:Int) < (m:Int):=by omega
   obtain ⟨b1,o1,rfl,-,hc1⟩:=(HA.out.below hbw).at_ (by omega)
   obtain ⟨b2,o2,rfl,-,hc2⟩:=(HB.out.below hbw).at_ (by omega)
   obtain ⟨x,hx⟩:∃ x,l[i]?=some x:=⟨_,zzJ (by rw [HL.out];exact hlt)⟩
   have y1:=hc1 i (.int .i64 x) (by rw [zza,hx];rfl)
   have y2:=hc2 i (.int .i64 x) (by rw [zza,hx];rfl)
   clear hc1 hc2 hx hbw
   go_wp2_with fail
   go_quiet (fail)
   go_wp2_with fail
   exact ⟨⟨i+1,by omega,by go_num,bdrewN HBW.out _⟩,by simp [intOf];omega⟩
  ·obtain rfl:i=m:=by omega
   have hlt2:¬((i:Int) < (i:Int)):=by omega
   clear hbw
   go_wp2_with fail
   go_ret
   exact ⟨rfl,HBW.out⟩
end Go.Proofs.Ytkhkllpdhnmhkaa
namespace Go.Proofs.Ytkhkllpdhnmhkaa.Mach
section
variable (p:Prg) (t:List Int)
def nexts (x:Ins) (k:Nat):List (Nat × Nat) :=
 if x.op=1 then (if k < t.length∧memB x.rng (t.getD k 0)=true then [(x.x.toNat,k+1)] else [])
 else if x.op=2 then [(x.x.toNat,k),(x.y.toNat,k)]
 else if x.op=3 then [(x.x.toNat,k)]
 else if x.op=4 then (if asB t k x.arg then [(x.x.toNat,k)] else [])
 else if x.op=7 then [(x.x.toNat,k)]
 else []
def jobs (l:List (Nat × Nat)):List Job:=l.map fun q=>.pair q.1 q.2
def under (x:Ins) (caps:List Int):List Job:=if x.op=3 then [.back x.arg.toNat (caps.getD x.arg.toNat 0)] else []
def capsAt (x:Ins) (k:Nat) (caps:List Int):List Int:=if x.op=3 then caps.set x.arg.toNat k else caps
theorem eff_eq (x:Ins) (k:Nat) (s:MS):eff t x k s=⟨jobs (nexts t x k)++(under x s.caps++s.todo),s.met,capsAt x k s.caps,s.steps,if x.op=5 then some x.arg else s.fin⟩:=by
 unfold eff nexts under capsAt jobs
 by_cases h1:x.op=1
 ·simp only [h1,if_true]
  split <;> simp
 rw [if_neg h1,if_neg h1]
 by_cases h2:x.op=2
 ·simp [h2]
 rw [if_neg h2,if_neg h2]
 by_cases h3:x.op=3
 ·simp [h3]
 rw [if_neg h3,if_neg h3,if_neg h3,if_neg h3]
 by_cases h4:x.op=4
 ·simp only [h4,if_true]
  split <;> simp
 rw [if_neg h4,if_neg h4]
 by_cases h5:x.op=5
 ·simp [h5]
 rw [if_neg h5,if_neg h5]
 by_cases h7:x.op=7
 ·simp [h7]
 rw [if_neg h7,if_neg h7]
 simp
variable (at_:Nat)
def mP (s:MS) (i k:Nat):Prop:=s.met.getD (bitOf t at_ i k) true=true
variable {p t at_}
theorem bit_inj {i k i' k':Nat} (h:JobOk p t at_ (.pair i k)) (h':JobOk p t at_ (.pair i' k')) (e:bitOf t at_ i k=bitOf t at_ i' k'):i=i'∧k=k':=by
 obtain ⟨-,h2,h3⟩:=h
 obtain ⟨-,h2',h3'⟩:=h'
 unfold bitOf places at e
 have hp:0 < t.length - at_+1:=by omega
 have a1:(i*(t.length - at_+1)+(k - at_)) / (t.length - at_+1)=i:=by
  rw [Nat.add_comm,Nat.add_mul_div_right _ _ hp,Nat.div_eq_of_lt (by omega),Nat.zero_add]
 have a2:(i'*(t.length - at_+1)+(k' - at_)) / (t.length - at_+1)=i':=by
  rw [Nat.add_comm,Nat.add_mul_div_right _ _ hp,Nat.div_eq_of_lt (by omega),Nat.zero_add]
 rw [e,a2] at a1
 subst a1
 exact ⟨rfl,by omega⟩
theorem mP_set {met:List Bool} {r:List Job} {c:List Int} {n:Nat} {f:Option Int} {s:MS} (hm:s.met=met) (hl:met.length=p.insts.length*places t at_) {i k i' k':Nat} (h:JobOk p t at_ (.pair i k)) (h':JobOk p t at_ (.pair i' k')) :
  mP t at_ ⟨r,met.set (bitOf t at_ i k) true,c,n,f⟩ i' k' ↔ mP t at_ s i' k'∨(i'=i∧k'=k):=by
 unfold mP
 subst hm
 simp only []
 have hb:=bit_lt h
 by_cases e:bitOf t at_ i k=bitOf t at_ i' k'
 ·have hh:=bit_inj h h' e
  rw [←e,List.getD_eq_getElem?_getD,List.getElem?_set_self (by omega)]
  exact ⟨fun _=>.inr ⟨hh.1.symm,hh.2.symm⟩,fun _=>rfl⟩
 ·rw [List.getD_eq_getElem?_getD,List.getElem?_set_ne e,←List.getD_eq_getElem?_getD]
  refine ⟨.inl,fun hh=>hh.elim id fun hh=>?_⟩
  exact absurd (by rw [hh.1,hh.2]) e
theorem iter_add:∀ (a b:Nat) (s:MS),iter p t at_ (a+b) s=iter p t at_ b (iter p t at_ a s)
 | 0,b,s=>by rw [Nat.zero_add];rfl
 | a+1,b,s=>by rw [Nat.succ_add,iter,iter_add a b];rfl
theorem Ok.iter_ (hc:checkB p=true):∀ (n:Nat) {s:MS},Ok p t at_ s→Ok p t at_ (iter p t at_ n s)
 | 0,_,h=>h
 | n+1,_,h=>Ok.iter_ hc n (h.step hc)
theorem final_iter (n:Nat) (s:MS):final p t at_ (iter p t at_ n s)=final p t at_ s:=by
 have h:=iter_halts p t at_ (iter p t at_ n s) _ (zzF _)
 rw [←iter_add] at h
 have:=final_of p t at_ h
 rw [iter_add] at this
 exact this
theorem final_halted {s:MS} (h:halted s):final p t at_ s=s:=halt_iter p t at_ h _
theorem set_back (caps:List Int) (a:Nat) (k:Int):(caps.set a k).set a (caps.getD a 0)=caps:=by
 rw [List.set_set]
 by_cases h:a < caps.length
 ·rw [List.getD_eq_getElem?_getD,zzJ h,Option.getD_some,List.set_getElem_self]
 ·rw [List.set_eq_of_length_le (by omega)]
def Shut (p:Prg) (t:List Int) (at_:Nat) (s:MS):Prop:=∀ i k x,JobOk p t at_ (.pair i k)→mP t at_ s i k→p.insts[i]?=some x→s.fin=none→x.op≠5∧∀ q∈nexts t x k,mP t at_ s q.1 q.2∨.pair q.1 q.2∈s.todo
theorem Shut.step {s:MS} (hc:checkB p=true) (ho:Ok p t at_ s) (h:Shut p t at_ s):Shut p t at_ (mstep p t at_ s):=by
 by_cases hh:halted s
 ·rw [halt_stay p t at_ hh];exact h
 unfold halted at hh
 simp only [not_or,ne_eq,Classical.not_not] at hh
 obtain ⟨hf,ht⟩:=hh
 match hd:s.todo,ht with
 | .back c old :: r,_ =>
  rw [mstep_back hf hd]
  intro i k x hj hm hx hfn
  obtain ⟨h5,hq⟩:=h i k x hj hm hx hf
  refine ⟨h5,fun q hqm=>(hq q hqm).imp id fun hm=>?_⟩
  rw [hd] at hm
  exact (zzN.1 hm).resolve_left (by simp)
 | .pair i0 k0 :: r,_ =>
  have hj0:=ho.jobs (.pair i0 k0) (by rw [hd];exact zzH)
  cases hq0:s.met.getD (bitOf t at_ i0 k0) true with
  | true =>
   rw [mstep_met hf hd hq0]
   intro i k x hj hm hx hfn
   obtain ⟨h5,hq⟩:=h i k x hj hm hx hf
   refine ⟨h5,fun q hqm=>(hq q hqm).elim .inl fun hm=>?_⟩
   rw [hd] at hm
   rcases zzN.1 hm with e | hm
   ·simp only [Job.pair.injEq] at e
    rw [e.1,e.2]
    exact .inl hq0
   ·exact .inr hm
  | false =>
   obtain ⟨x0,hx0⟩:∃ x,p.insts[i0]?=some x:=⟨_,zzJ hj0.1⟩
   have e0:=mstep_pair (p:=p) (t:=t) (at_:=at_) hf hd hq0 hx0
   rw [eff_eq] at e0
   simp only [] at e0
   rw [e0]
   intro i k x hj hm hx hfn
   simp only [] at hfn
   have h5:x0.op≠5:=fun e=>by rw [if_pos e] at hfn;cases hfn
   rcases (mP_set (s:=s) rfl ho.met hj0 hj).1 hm with hm | ⟨rfl,rfl⟩
   ·obtain ⟨h5',hq⟩:=h i k x hj hm hx hf
    refine ⟨h5',fun q hqm=>?_⟩
    have hle:JobOk p t at_ (.pair q.1 q.2)∨True:=.inr trivial
    rcases hq q hqm with hm2 | hm2
    ·refine .inl ?_
     unfold mP at hm2 ⊢
     simp only []
     by_cases e:bitOf t at_ i0 k0=bitOf t at_ q.1 q.2
     ·rw [e] at hq0;rw [hq0] at hm2;cases hm2
     ·rw [List.getD_eq_getElem?_getD,List.getElem?_set_ne e,←List.getD_eq_getElem?_getD];exact hm2
    ·rw [hd] at hm2
     rcases zzN.1 hm2 with e | hm2
     ·simp only [Job.pair.injEq] at e
      refine .inl ?_
      rw [e.1,e.2]
      exact (mP_set (s:=s) rfl ho.met hj0 hj0).2 (.inr ⟨rfl,rfl⟩)
     ·exact .inr (by simp only [zzM];exact .inr (.inr hm2))
   ·have:x=x0:=Option.some.inj (hx.symm.trans hx0)
    subst this
    refine ⟨h5,fun q hqm=>.inr ?_⟩
    simp only [zzM]
    exact .inl (List.mem_map.2 ⟨q,hqm,rfl⟩)
theorem Shut.iter_ (hc:checkB p=true):∀ (n:Nat) {s:MS},Ok p t at_ s→Shut p t at_ s→Shut p t at_ (iter p t at_ n s)
 | 0,_,_,h=>h
 | n+1,_,ho,h=>Shut.iter_ hc n (ho.step hc) (h.step hc ho)
end
section
variable (p:Prg) (t:List Int)
def oneAt (i:Nat):MS:=final p t i (begin_ p i (List.replicate (p.insts.length*places t i) false) 0)
variable {p t}
theorem rep_getD {n q:Nat} (h:q < n):(List.replicate n false).getD q true=false:=by
 rw [List.getD_eq_getElem?_getD,List.getElem?_replicate,if_pos h];rfl
theorem fresh_met {a b:Nat} {i k:Nat} (h:JobOk p t a (.pair i k)):¬mP t a (begin_ p b (List.replicate (p.insts.length*places t a) false) 0) i k:=by
 unfold mP begin_
 simp only []
 rw [rep_getD (bit_lt h)]
 simp
end
end Go.Proofs.Ytkhkllpdhnmhkaa.Mach
namespace Go.Proofs.Ytkhkllpdhnmhkaa.Mach
def setM (M:Nat→Nat→Bool) (i k:Nat):Nat→Nat→Bool:=fun a b=>if a=i∧b=k then true else M a b
theorem setM_self (M:Nat→Nat→Bool) (i k:Nat):setM M i k i k=true:=by simp [setM]
theorem setM_old {M:Nat→Nat→Bool} {a b:Nat} (i k:Nat) (h:M a b=true):setM M i k a b=true:=by unfold setM;split <;> simp [h]
theorem setM_iff {M:Nat→Nat→Bool} {i k a b:Nat}:setM M i k a b=true ↔ M a b=true∨(a=i∧b=k):=by
 unfold setM
 split
 ·rename_i h;simp [h]
 ·rename_i h;simp [h]
section
variable (p:Prg) (t:List Int)
mutual
inductive DOne:(Nat→Nat→Bool)→List Int→Nat × Nat→(Nat→Nat→Bool)→Option (List Int × Int)→Prop
 | met {M:Nat→Nat→Bool} {c:List Int} {q:Nat × Nat}:M q.1 q.2=true→DOne M c q M none
 | fin {M:Nat→Nat→Bool} {c:List Int} {q:Nat × Nat} {x:Ins}:M q.1 q.2=false→p.insts[q.1]?=some x→x.op=5→DOne M c q (setM M q.1 q.2) (some (c,x.arg))
 | step {M M':Nat→Nat→Bool} {c:List Int} {q:Nat × Nat} {x:Ins} {r:Option (List Int × Int)}:M q.1 q.2=false→p.insts[q.1]?=some x→x.op≠5→DMany (setM M q.1 q.2) (capsAt x q.2 c) (nexts t x q.2) M' r→DOne M c q M' r
inductive DMany:(Nat→Nat→Bool)→List Int→List (Nat × Nat)→(Nat→Nat→Bool)→Option (List Int × Int)→Prop
 | nil {M:Nat→Nat→Bool} {c:List Int}:DMany M c [] M none
 | cons {M M1 M2:Nat→Nat→Bool} {c:List Int} {q:Nat × Nat} {l:List (Nat × Nat)} {r:Option (List Int × Int)}:DOne M c q M1 none→DMany M1 c l M2 r→DMany M c (q :: l) M2 r
 | stop {M M1:Nat→Nat→Bool} {c:List Int} {q:Nat × Nat} {l:List (Nat × Nat)} {w:List Int × Int}:DOne M c q M1 (some w)→DMany M c (q :: l) M1 (some w)
end
theorem DMany.one {M M':Nat→Nat→Bool} {c:List Int} {q:Nat × Nat} {r:Option (List Int × Int)} (h:DOne p t M c q M' r):DMany p t M c [q] M' r:=by
 cases r with
 | none=>exact .cons h .nil
 | some w=>exact .stop h
variable (at_:Nat)
def Agree (s:MS) (M:Nat→Nat→Bool):Prop:=∀ i k,JobOk p t at_ (.pair i k)→(mP t at_ s i k ↔ M i k=true)
def Came1 (s':MS) (rest:List Job) (c:List Int) (M':Nat→Nat→Bool):Option (List Int × Int)→Prop
 | none=>s'.todo=rest∧s'.fin=none∧s'.caps=c∧Agree p t at_ s' M'
 | some w=>s'.fin=some w.2∧s'.caps=w.1
variable {p t at_}
mutual
theorem d_one (hc:checkB p=true):∀ {M M':Nat→Nat→Bool} {c:List Int} {q:Nat × Nat} {r:Option (List Int × Int)},DOne p t M c q M' r→∀ {s:MS} {rest:List Job},Ok p t at_ s→s.fin=none→s.todo=.pair q.1 q.2 :: rest→s.caps=c→Agree p t at_ s M→∃ n,Came1 p t at_ (iter p t at_ n s) rest c M' r
 | M,_,c,q,_,.met hm,s,rest,ho,hf,ht,hcs,ha=>by
  have hj:=ho.jobs (.pair q.1 q.2) (by rw [ht];exact zzH)
  refine ⟨1,?_⟩
  show Came1 p t at_ (mstep p t at_ s) rest c M none
  rw [mstep_met hf ht ((ha _ _ hj).2 hm)]
  exact ⟨rfl,hf,hcs,ha⟩
 | M,_,c,q,_,.fin (x:=x) hm hx h5,s,rest,ho,hf,ht,hcs,ha=>by
  have hj:=ho.jobs (.pair q.1 q.2) (by rw [ht];exact zzH)
  have hmm:s.met.getD (bitOf t at_ q.1 q.2) true=false:=by
   have:=(not_congr (ha _ _ hj)).2 (by rw [hm];simp)
   unfold mP at this
   simpa using this
  refine ⟨1,?_⟩
  show Came1 p t at_ (mstep p t at_ s) rest c _ _
  rw [mstep_pair hf ht hmm hx,eff_eq]
  refine ⟨by simp [h5],?_⟩
  show capsAt x q.2 s.caps=c
  unfold capsAt
  rw [if_neg (by omega),hcs]
 | M,M',c,q,r,.step (x:=x) hm hx h5 h,s,rest,ho,hf,ht,hcs,ha=>by
  have hj:=ho.jobs (.pair q.1 q.2) (by rw [ht];exact zzH)
  have hmm:s.met.getD (bitOf t at_ q.1 q.2) true=false:=by
   have:=(not_congr (ha _ _ hj)).2 (by rw [hm];simp)
   unfold mP at this
   simpa using this
  have e:=mstep_pair (p:=p) (t:=t) (at_:=at_) hf ht hmm hx
  rw [eff_eq,if_neg h5] at e
  simp only [] at e
  have ho1:=ho.step hc
  have ha1:Agree p t at_ (mstep p t at_ s) (setM M q.1 q.2):=fun i k hik=>by
   rw [e,mP_set (s:=s) rfl ho.met hj hik,setM_iff,ha i k hik]
  obtain ⟨n,hn⟩:=d_many hc h (s:=mstep p t at_ s) (rest:=under x s.caps++rest) ho1 (by rw [e];exact hf) (by rw [e]) (by rw [e];simp only [];rw [hcs]) ha1
  cases r with
  | some w =>
   refine ⟨1+n,?_⟩
   rw [iter_add]
   exact hn
  | none =>
   obtain ⟨g1,g2,g3,g4⟩:=hn
   by_cases h3:x.op=3
   ·refine ⟨1+n+1,?_⟩
    rw [iter_add,iter_add]
    have hu:under x s.caps=[.back x.arg.toNat (s.caps.getD x.arg.toNat 0)]:=by unfold under;rw [if_pos h3]
    rw [hu] at g1
    show Came1 p t at_ (mstep p t at_ (iter p t at_ n (mstep p t at_ s))) rest c M' none
    rw [mstep_back g2 g1]
    refine ⟨rfl,g2,?_,g4⟩
    show (iter p t at_ n (mstep p t at_ s)).caps.set _ _=c
    rw [g3]
    unfold capsAt
    rw [if_pos h3,hcs,set_back]
   ·refine ⟨1+n,?_⟩
    rw [iter_add]
    have hu:under x s.caps=[]:=by unfold under;rw [if_neg h3]
    rw [hu] at g1
    refine ⟨g1,g2,?_,g4⟩
    show (iter p t at_ n (mstep p t at_ s)).caps=c
    rw [g3]
    unfold capsAt
    rw [if_neg h3]
theorem d_many (hc:checkB p=true):∀ {M M':Nat→Nat→Bool} {c:List Int} {l:List (Nat × Nat)} {r:Option (List Int × Int)},DMany p t M c l M' r→∀ {s:MS} {rest:List Job},Ok p t at_ s→s.fin=none→s.todo=jobs l++rest→s.caps=c→Agree p t at_ s M→∃ n,Came1 p t at_ (iter p t at_ n s) rest c M' r
 | _,_,_,_,_,.nil,s,rest,ho,hf,ht,hcs,ha=>⟨0,ht,hf,hcs,ha⟩
 | _,_,_,_,_,.cons (q:=q) (l:=l) h1 h2,s,rest,ho,hf,ht,hcs,ha=>by
  obtain ⟨n,g1,g2,g3,g4⟩:=d_one hc h1 (s:=s) (rest:=jobs l++rest) ho hf ht hcs ha
  obtain ⟨m,hm⟩:=d_many hc h2 (s:=iter p t at_ n s) (rest:=rest) (ho.iter_ hc n) g2 g1 g3 g4
  exact ⟨n+m,by rw [iter_add];exact hm⟩
 | _,_,_,_,_,.stop (q:=q) (l:=l) h1,s,rest,ho,hf,ht,hcs,ha=>by
  obtain ⟨n,hn⟩:=d_one hc h1 (s:=s) (rest:=jobs l++rest) ho hf ht hcs ha
  exact ⟨n,hn⟩
end
theorem walk_is (hc:checkB p=true) {a b:Nat} (hb:a≤b∧b≤t.length) {M':Nat→Nat→Bool} {r:Option (List Int × Int)}
  (h:DOne p t (fun _ _=>false) (List.replicate p.caps.toNat (-1)) (p.start.toNat,b) M' r) :
  (final p t a (begin_ p b (List.replicate (p.insts.length*places t a) false) 0)).fin.map (fun w=>((final p t a (begin_ p b (List.replicate (p.insts.length*places t a) false) 0)).caps,w))=r:=by
 have ho:Ok p t a (begin_ p b (List.replicate (p.insts.length*places t a) false) 0):=Ok.start hc (zzU hb.1 hb.2) hb (by rw [List.length_replicate]) (by rw [List.length_replicate,List.count_replicate];simp)
 obtain ⟨n,hn⟩:=d_one hc h (s:=begin_ p b (List.replicate (p.insts.length*places t a) false) 0) (rest:=[]) ho rfl rfl rfl fun i k hj=>by
  refine ⟨fun hx=>absurd hx (fresh_met hj),fun hx=>by cases hx⟩
 generalize begin_ p b (List.replicate (p.insts.length*places t a) false) 0=X at hn ⊢
 have hfi:∀ _:halted (iter p t a n X),final p t a X=iter p t a n X:=fun hh=>by rw [←final_iter n X];exact final_halted hh
 cases r with
 | none =>
  obtain ⟨g1,g2,-,-⟩:=hn
  rw [hfi (.inr g1),g2];rfl
 | some w =>
  obtain ⟨g1,g2⟩:=hn
  rw [hfi (.inl (by rw [g1];simp)),g1,g2];rfl
end
end Go.Proofs.Ytkhkllpdhnmhkaa.Mach
namespace Go.Proofs.Ytkhkllpdhnmhkaa.Mach
def walkAt (p:Prg) (t:List Int) (b:Nat):MS:=final p t 0 (begin_ p b (List.replicate (p.insts.length*places t 0) false) 0)
def resAt (p:Prg) (t:List Int) (b:Nat):Option (List Int × Int):=(walkAt p t b).fin.map fun w=>((walkAt p t b).caps,w)
section
variable {p:Prg} {t:List Int}
theorem res_of (hc:checkB p=true) {b:Nat} (hb:b≤t.length) {M':Nat→Nat→Bool} {r:Option (List Int × Int)} (d:DOne p t (fun _ _=>false) (List.replicate p.caps.toNat (-1)) (p.start.toNat,b) M' r):resAt p t b=r :=
 walk_is hc (a:=0) ⟨zzZ b,hb⟩ d
end
section
variable {P p:Prg} {t:List Int} {o:Nat} {wh:Int} {ext:List Int}
def Agr (p:Prg) (o:Nat) (M N:Nat→Nat→Bool):Prop:=∀ i k,i < p.insts.length→N (o+i) k=M i k
def Out (p:Prg) (o:Nat) (N N':Nat→Nat→Bool):Prop:=∀ a k,(a < o∨o+p.insts.length≤a)→N' a k=N a k
theorem Agr.set_ {M N:Nat→Nat→Bool} (h:Agr p o M N) (i k:Nat):Agr p o (setM M i k) (setM N (o+i) k):=fun a b ha=>by
 unfold setM
 rw [h a b ha]
 by_cases e:a=i∧b=k
 ·rw [if_pos e,if_pos ⟨by omega,e.2⟩]
 ·rw [if_neg e,if_neg fun e'=>e ⟨by omega,e'.2⟩]
theorem Out.set_ {N:Nat→Nat→Bool} {i:Nat} (hi:i < p.insts.length) (k:Nat):Out p o N (setM N (o+i) k):=fun a b ha=>by
 unfold setM
 rw [if_neg fun e=>by omega]
theorem Out.trans {N N1 N2:Nat→Nat→Bool} (h:Out p o N N1) (g:Out p o N1 N2):Out p o N N2:=fun a k ha=>(g a k ha).trans (h a k ha)
end
end Go.Proofs.Ytkhkllpdhnmhkaa.Mach
