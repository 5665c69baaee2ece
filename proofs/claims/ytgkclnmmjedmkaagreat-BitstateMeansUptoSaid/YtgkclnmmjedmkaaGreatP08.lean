/- meaning.walker.begin: an assertion. -/
import Derived.Test.YtgkclnmmjedmkaaGreatP05
import Derived.Test.YtgkclnmmjedmkaaGreatP07
set_option maxRecDepth 100000
set_option maxHeartbeats 4000000
namespace Go.Proofs.YtgkclnmmjedmkaaGreat
open Go.RowKit Mach
theorem beg_3 (G:Wk) (hwf:G.wf) (s s':Mean.St) (n:Mean.Un) (pl:Nat) (nt:List Int) (K:Mean.Kt) (hkind:n.kind=3) (hm:s.met (n.ad,pl,false)=0) (h:G.chain (s.mark (n.ad,pl,false)) (Mean.first G.t n pl nt K) s') (hb:s.calls≤4611686018427387904):G.does s (.beg n pl nt K) s':=by
 intro hn hpl hlen w v N c hc hs hr hk
 obtain ⟨vf,vc,rfl,hgo⟩:=kv_func hk
 obtain ⟨f3,hs3,x1,x2,x3⟩:=boxes3 hc hs 63 69 104 (.pointer (some ⟨G.wb,0,none⟩)) (.pointer (some ⟨n.ad,0,none⟩)) (.func (Fn.func vf) #[] vc)
 have HF3:=zzA f3
 have HC3:=zzA (hc.fr f3)
 have HR3:=zzA (hr.fr f3)
 have HK3:=zzA (Wk.kv_fr f3 hk)
 have HON:=zzA (once_any G _ s (n.ad,pl,false) (hc.fr f3) hs3 ⟨n,hn,rfl⟩ hb)
 have X1:=zzA x1
 have X2:=zzA x2
 have X3:=zzA x3
 have c1:=x1.2
 have c2:=x2.2
 have c3:=x3.2
 have HH:=zzA h
 have HWF:=zzA hwf
 clear f3 hs3 x1 x2 x3 hc hs hr hk h hwf
 generalize hw3:((w.alloc (.cells #[.pointer (some ⟨G.wb,0,none⟩)] 63)).alloc (.cells #[.pointer (some ⟨n.ad,0,none⟩)] 69)).alloc (.cells #[.func (Fn.func vf) #[] vc] 104)=w3 at *
 unfold kv at HON
 generalize hq1:w.heap.size=q1 at *
 go_enter Tryz.func28,Tryz.ntmps28
 go_wp2_with fail
 refine HON.out.mono ?_
 rintro e w4 ⟨rfl,hf4,hs4⟩
 have HF4:=zzA hf4
 have HS4:=zzA hs4
 have Y1:=zzA (X1.out.fr hf4)
 have Y2:=zzA (X2.out.fr hf4)
 have Y3:=zzA (X3.out.fr hf4)
 have HC4:=zzA (HC3.out.fr hf4)
 have HR4:=zzA (HR3.out.fr hf4)
 have HK4:=zzA (Wk.kv_fr hf4 HK3.out)
 have m1:=Y1.out.2
 have m2:=Y2.out.2
 have m3:=Y3.out.2
 obtain ⟨ra,rc,sa,sc,hnd⟩:=HC4.out.nodes n hn
 have HND:=zzA hnd
 have n0:w4.cell? ⟨n.ad,0,none⟩=some (.int .i64 n.kind):=hnd.blk.cell 0
 clear hf4 hs4 hnd c1 c2 c3 HON hw3
 rw [hkind] at n0
 have hmd:decide (s.met (n.ad,pl,false)=0)=true:=by simpa using hm
 rw [hmd]
 have hh:=HH.out
 unfold Mean.first at hh
 simp only [hkind] at hh
 clear hmd HH
 simp only [reduceIte,Int.reduceNeg,Int.reduceEq] at hh
 have fd:G.fr w4 w4.drew:=HC4.out.below (bdrewN (zzb _ _) 1)
 have HFD:=zzA fd
 have HCD:=zzA (HC4.out.fr fd)
 have HSD:=zzA (HS4.out.kept_below HC4.out (bdrewN (zzb _ _) 1))
 have HRD:=zzA (HR4.out.fr fd)
 have HKD:=zzA (Wk.kv_fr fd HK4.out)
 have Z1:=zzA (Y1.out.fr fd)
 have Z2:=zzA (Y2.out.fr fd)
 have Z3:=zzA (Y3.out.fr fd)
 have HNDD:=zzA (HND.out.fr fd)
 clear fd
 obtain ⟨j,hj,hast⟩:=HWF.out.ast n hn hkind
 have HAT:=zzA (at_any G.At G.nt G.ct pl G.t w4.drew (HCD.out.text.reads fun b hb=>hb.1) hpl)
 have HAS:=zzA (fun u=>holds_any j (atBits G.t pl).toNat hj (by have:=atBits_bd G.t pl;omega) u)
 rw [show (((atBits G.t pl).toNat:Nat):Int)=atBits G.t pl from by have:=(atBits_bd G.t pl).1;omega,←hast] at HAS
 obtain ⟨bq,hbq⟩:∃ b,b=asB G.t pl n.ast:=⟨_,rfl⟩
 rw [show decide (atBits G.t pl / n.ast % 2=1)=bq from hbq.symm] at HAS
 rw [←hbq] at hh
 generalize atBits G.t pl=at9 at *
 have kA:w4.drew.cell? ⟨q1,0,none⟩=some (.pointer (some ⟨G.wb,0,none⟩))∧w4.drew.cell? ⟨q1+1,0,none⟩=some (.pointer (some ⟨n.ad,0,none⟩))∧w4.drew.cell? ⟨n.ad,2,none⟩=some (.int .i64 n.ast)∧w4.drew.cell? ⟨G.wb,0,none⟩=some (.slice G.At G.nt G.ct)∧w4.drew.cell? ⟨q1+1+1,0,none⟩=some (.func (Fn.func vf) #[] vc):=And.intro (Z1.out.2) (And.intro (Z2.out.2) (And.intro (HNDD.out.blk.cell 2) (And.intro (HCD.out.wb.2.cell 0) (Z3.out.2))))
 clear hbq hast
 simp only []
 go_wp2_with fail
 go_region_held_law (fun u=>u.cell? ⟨q1,0,none⟩=some (.pointer (some ⟨G.wb,0,none⟩))∧u.cell? ⟨q1+1,0,none⟩=some (.pointer (some ⟨n.ad,0,none⟩))∧u.cell? ⟨n.ad,2,none⟩=some (.int .i64 n.ast)∧u.cell? ⟨G.wb,0,none⟩=some (.slice G.At G.nt G.ct)∧u.cell? ⟨q1+1+1,0,none⟩=some (.func (Fn.func vf) #[] vc)) (first | with_reducible exact kA | with_reducible exact kB)
  (first
   | (go_at_call 39;(with_reducible refine HAT.out.mono ?_);rintro e w5 ⟨rfl,hb5⟩;have f5:=HCD.out.below hb5;have kB:=And.intro ((Z1.out.1.cell f5 (0)).trans kA.1) (And.intro ((Z2.out.1.cell f5 (0)).trans kA.2.1) (And.intro ((HNDD.out.still.cell f5 (2)).trans kA.2.2.1) (And.intro ((HCD.out.wb.1.cell f5 (0)).trans kA.2.2.2.1) ((Z3.out.1.cell f5 (0)).trans kA.2.2.2.2))));have HB5:=zzA hb5;clear hb5 f5;simp only [])
   | (go_at_call 38;(with_reducible refine (HAS.out _).mono ?_);rintro e w9 ⟨rfl,rfl⟩;simp only []))
 all_goals
  have HF5:=zzA (HCD.out.below HB5.out)
  have HS5:=zzA (HSD.out.kept_below HCD.out HB5.out)
  cases bq with
  | true =>
   rw [if_pos rfl] at hh
   obtain ⟨s1,h1,rfl⟩:=hh
   obtain ⟨f9,c9,he9,-,hcall⟩:=h1 hpl hlen w5 _ N c (HCD.out.fr HF5.out) HS5.out (HRD.out.fr HF5.out) (Wk.kv_fr HF5.out HKD.out)
   cases he9
   have HCALL:=zzA hcall
   have d3:=kB.2.2.2.2
   clear hcall h1 kA kB
   go_wp2_with fail
   refine HCALL.out.mono ?_
   rintro e w6 ⟨rfl,hx⟩
   have HX:=zzA hx
   clear hx
   simp only []
   go_wp2_with fail
   go_end0
   exact ⟨rfl,HF3.out.trans (HF4.out.trans (HFD.out.trans (HF5.out.trans HX.out.1))),HX.out.2⟩
  | false =>
   rw [if_neg (by simp)] at hh
   obtain rfl:s'=_:=hh
   clear kA kB
   go_wp2_with fail
   go_end0
   exact ⟨rfl,HF3.out.trans (HF4.out.trans (HFD.out.trans HF5.out)),HS5.out⟩
end Go.Proofs.YtgkclnmmjedmkaaGreat
namespace Go.Proofs.YtgkclnmmjedmkaaGreat.Mean
open Go.Proofs.YtgkclnmmjedmkaaGreat.Mach
def kidK (n:Un) (K:Kt):Kt:=if n.kind=7 then .grp n.ix K else if n.kind=-2∨n.kind=-3 then .dec n K else K
mutual
def posU:Un→Kt→List (Un × Kt)
 | .mk a k r b i z l,K=>(.mk a k r b i z l,K) :: (if k=4 then posR l K else posA l (kidK (.mk a k r b i z l) K))
def posR:List Un→Kt→List (Un × Kt)
 | [],_=>[]
 | s :: l,K=>posU s (.row l K)++posR l K
def posA:List Un→Kt→List (Un × Kt)
 | [],_=>[]
 | s :: l,K=>posU s K++posA l K
end
def kids (n:Un) (K:Kt):List (Un × Kt):=if n.kind=4 then posR n.subs K else posA n.subs (kidK n K)
theorem posU_eq (n:Un) (K:Kt):posU n K=(n,K) :: kids n K:=by cases n;rw [posU];rfl
theorem Un.ind {P:Un→Prop} (h:∀ u,(∀ s∈u.subs,P s)→P u):∀ u,P u:=fun u =>
 Un.rec (motive_1:=P) (motive_2:=fun l=>∀ s∈l,P s) (fun a k r b i z l ih=>h (.mk a k r b i z l) ih) (by simp) (fun a l ha hl=>by intro s hs;rcases zzN.1 hs with rfl | hs;exact ha;exact hl s hs) u
theorem pos_ads:∀ (u:Un) (K:Kt),(posU u K).map (fun q=>q.1.ad)=u.all.map Un.ad:=by
 intro u
 induction u using Un.ind with
 | h u ih =>
  intro K
  have hR:∀ (l:List Un),(∀ s∈l,∀ K,(posU s K).map (fun q=>q.1.ad)=s.all.map Un.ad)→∀ K,(posR l K).map (fun q=>q.1.ad)=(allU l).map Un.ad:=by
   intro l
   induction l with
   | nil=>intro _ K;rfl
   | cons s l ihl =>
    intro h K
    rw [posR,allU,zzT,zzT,h s zzH,ihl fun x hx=>h x (zzI _ hx)]
  have hA:∀ (l:List Un),(∀ s∈l,∀ K,(posU s K).map (fun q=>q.1.ad)=s.all.map Un.ad)→∀ K,(posA l K).map (fun q=>q.1.ad)=(allU l).map Un.ad:=by
   intro l
   induction l with
   | nil=>intro _ K;rfl
   | cons s l ihl =>
    intro h K
    rw [posA,allU,zzT,zzT,h s zzH,ihl fun x hx=>h x (zzI _ hx)]
  rw [posU_eq,all_subs,zzS,zzS]
  unfold kids
  split
  ·rw [hR u.subs ih]
  ·rw [hA u.subs ih]
theorem posR_sub {l:List Un} {K:Kt} {s:Un} {b:List Un} {a:List Un} (h:l=a++s :: b):∀ q∈posU s (.row b K),q∈posR l K:=by
 subst h
 induction a with
 | nil=>intro q hq;rw [zzn,posR];exact zzW _ hq
 | cons x a ih=>intro q hq;rw [zzi,posR];exact zzV _ (ih q hq)
theorem posA_sub {l:List Un} {K:Kt} {s:Un} (h:s∈l):∀ q∈posU s K,q∈posA l K:=by
 induction l with
 | nil=>cases h
 | cons x l ih =>
  intro q hq
  rw [posA]
  rcases zzN.1 h with rfl | h
  ·exact zzW _ hq
  ·exact zzV _ (ih h q hq)
theorem mem_posR {l:List Un} {K:Kt} {q:Un × Kt} (h:q∈posR l K):∃ a s b,l=a++s :: b∧q∈posU s (.row b K):=by
 induction l with
 | nil=>cases h
 | cons x l ih =>
  rw [posR] at h
  rcases zzM.1 h with h | h
  ·exact ⟨[],x,l,rfl,h⟩
  ·obtain ⟨a,s,b,e,h2⟩:=ih h
   exact ⟨x :: a,s,b,by rw [e];rfl,h2⟩
theorem mem_posA {l:List Un} {K:Kt} {q:Un × Kt} (h:q∈posA l K):∃ s∈l,q∈posU s K:=by
 induction l with
 | nil=>cases h
 | cons x l ih =>
  rw [posA] at h
  rcases zzM.1 h with h | h
  ·exact ⟨x,zzH,h⟩
  ·obtain ⟨s,hs,h⟩:=ih h
   exact ⟨s,zzI _ hs,h⟩
theorem pos_trans:∀ (u:Un) (K:Kt) (n:Un) (K':Kt),(n,K')∈posU u K→∀ q∈posU n K',q∈posU u K:=by
 intro u
 induction u using Un.ind with
 | h u ih =>
  intro K n K' hn q hq
  rw [posU_eq] at hn
  rcases zzN.1 hn with e | hn
  ·simp only [Prod.mk.injEq] at e
   obtain ⟨rfl,rfl⟩:=e
   exact hq
  rw [posU_eq]
  refine zzI _ ?_
  unfold kids at hn ⊢
  split at hn
  ·rename_i h4
   rw [if_pos h4]
   obtain ⟨a,s,b,hs,hm⟩:=mem_posR hn
   exact posR_sub hs q (ih s (by rw [hs];simp) _ n K' hm q hq)
  ·rename_i h4
   rw [if_neg h4]
   obtain ⟨s,hs,hm⟩:=mem_posA hn
   exact posA_sub hs q (ih s hs _ n K' hm q hq)
section
variable {t:List Int} {root:Un}
def InT (root:Un) (n:Un) (K:Kt):Prop:=(n,K)∈posU root .top
theorem inT_kid {n:Un} {K:Kt} (h:InT root n K) {q:Un × Kt} (hq:q∈kids n K):InT root q.1 q.2 :=
 pos_trans root .top n K h q (by rw [posU_eq];exact zzI _ hq)
theorem self_pos (n:Un) (K:Kt):(n,K)∈posU n K:=by rw [posU_eq];exact zzH
theorem inT_row {n:Un} {K:Kt} (h:InT root n K) (h4:n.kind=4) {a b:List Un} {s:Un} (hs:n.subs=a++s :: b):InT root s (.row b K) :=
 inT_kid h (q:=(s,.row b K)) (by unfold kids;rw [if_pos h4];exact posR_sub hs _ (self_pos s _))
theorem inT_sub {n:Un} {K:Kt} (h:InT root n K) (h4:n.kind≠4) {s:Un} (hs:s∈n.subs):InT root s (kidK n K) :=
 inT_kid h (q:=(s,kidK n K)) (by unfold kids;rw [if_neg h4];exact posA_sub hs _ (self_pos s _))
theorem rowSt_of {n:Un} {K:Kt} (h:InT root n K) (h4:n.kind=4):∀ {b a:List Un},n.subs=a++b→rowSt (InT root) K b
 | [],_,_=>trivial
 | s :: b,a,hs=>⟨inT_row h h4 hs,rowSt_of h h4 (a:=a++[s]) (by rw [hs];simp)⟩
theorem behind_of:∀ (u:Un) (K:Kt),InT root u K→KSt (InT root) K→∀ n K',(n,K')∈posU u K→KSt (InT root) K':=by
 intro u
 induction u using Un.ind with
 | h u ih =>
  intro K hu hK n K' hn
  rw [posU_eq] at hn
  rcases zzN.1 hn with e | hn
  ·simp only [Prod.mk.injEq] at e
   rw [e.2];exact hK
  unfold kids at hn
  split at hn
  ·rename_i h4
   obtain ⟨a,s,b,hs,hm⟩:=mem_posR hn
   have hs1:=inT_row hu h4 hs
   exact ih s (by rw [hs];simp) _ hs1 ⟨rowSt_of hu h4 (a:=a++[s]) (by rw [hs];simp),hK⟩ n K' hm
  ·rename_i h4
   obtain ⟨s,hs,hm⟩:=mem_posA hn
   have hs1:=inT_sub hu h4 hs
   refine ih s hs _ hs1 ?_ n K' hm
   unfold kidK
   split
   ·exact hK
   ·split
    ·rename_i hl;exact ⟨⟨hu,hl⟩,hK⟩
    ·exact hK
theorem nodup_one {α β:Type} {f:α→β}:∀ {l:List α},(l.map f).Nodup→∀ {x y:α},x∈l→y∈l→f x=f y→x=y
 | [],_,x,_,hx,_,_=>by cases hx
 | a :: l,hn,x,y,hx,hy,e=>by
  rw [zzS,List.nodup_cons] at hn
  rcases zzN.1 hx with hx1 | hx1
  ·rcases zzN.1 hy with hy1 | hy1
   ·rw [hx1,hy1]
   ·exact absurd (by rw [←hx1,e];exact zzk hy1) hn.1
  ·rcases zzN.1 hy with hy1 | hy1
   ·exact absurd (by rw [←hy1,←e];exact zzk hx1) hn.1
   ·exact nodup_one hn.2 hx1 hy1 e
theorem place_of (hd:(root.all.map Un.ad).Nodup):Place t (InT root) where
 one:=fun n K n' K' h1 h2 e=>by
  have hd2:((posU root .top).map fun q=>q.1.ad).Nodup:=by rw [pos_ads];exact hd
  have:=nodup_one hd2 h1 h2 e
  simp only [Prod.mk.injEq] at this
  exact this
 first:=fun n K h pl nt x hx=>by
  have hb:=behind_of root .top (self_pos root .top) trivial n K h
  unfold first at hx
  by_cases k1:n.kind=1
  ·rw [if_pos k1,zzE] at hx;subst hx;exact hb
  rw [if_neg k1] at hx
  by_cases k2:n.kind=2
  ·rw [if_pos k2] at hx
   split at hx
   ·rw [zzE] at hx;subst hx;exact hb
   ·cases hx
  rw [if_neg k2] at hx
  by_cases k3:n.kind=3
  ·rw [if_pos k3] at hx
   split at hx
   ·rw [zzE] at hx;subst hx;exact hb
   ·cases hx
  rw [if_neg k3] at hx
  by_cases k4:n.kind=4
  ·rw [if_pos k4,zzE] at hx;subst hx
   cases hs:n.subs with
   | nil=>exact hb
   | cons s l=>exact inT_row (a:=[]) h k4 hs
  rw [if_neg k4] at hx
  by_cases k5:n.kind=5
  ·rw [if_pos k5] at hx
   obtain ⟨s,hs,rfl⟩:=zzp.1 hx
   have:=inT_sub h k4 hs
   unfold kidK at this
   rw [if_neg (by rw [k5];decide),if_neg (by rw [k5];decide)] at this
   exact this
  rw [if_neg k5] at hx
  by_cases k7:n.kind=7
  ·rw [if_pos k7] at hx
   split at hx
   ·cases hx
   ·rename_i s l hs
    rw [zzE] at hx;subst hx
    have:=inT_sub h k4 (s:=s) (by rw [hs];exact zzH)
    unfold kidK at this
    rw [if_pos k7] at this
    exact this
  rw [if_neg k7] at hx
  by_cases m1:n.kind=-1
  ·rw [if_pos m1] at hx
   unfold choose at hx
   split at hx
   ·cases hx
   ·rename_i s l hs
    have:=inT_sub h k4 (s:=s) (by rw [hs];exact zzH)
    unfold kidK at this
    rw [if_neg k7,if_neg (by rw [m1];decide)] at this
    split at hx <;> (simp only [zzN,zyA,or_false] at hx;rcases hx with rfl | rfl)
    ·exact hb
    ·exact this
    ·exact this
    ·exact hb
  rw [if_neg m1] at hx
  by_cases m2:n.kind=-2
  ·rw [if_pos m2,zzE] at hx;subst hx;exact ⟨h,.inl m2⟩
  rw [if_neg m2] at hx
  by_cases m3:n.kind=-3
  ·rw [if_pos m3] at hx
   split at hx
   ·cases hx
   ·rename_i s l hs
    rw [zzE] at hx;subst hx
    have:=inT_sub h k4 (s:=s) (by rw [hs];exact zzH)
    unfold kidK at this
    rw [if_neg k7,if_pos (.inr m3)] at this
    exact this
  rw [if_neg m3] at hx
  cases hx
 decide:=fun n K h hl pl nt x hx=>by
  have hb:=behind_of root .top (self_pos root .top) trivial n K h
  have k4:n.kind≠4:=by rcases hl with e | e <;> rw [e] <;> decide
  have k7:n.kind≠7:=by rcases hl with e | e <;> rw [e] <;> decide
  unfold choose at hx
  split at hx
  ·cases hx
  ·rename_i s l hs
   have hk:=inT_sub h k4 (s:=s) (by rw [hs];exact zzH)
   unfold kidK at hk
   rw [if_neg k7,if_pos (show n.kind=-2∨n.kind=-3 from hl)] at hk
   split at hx <;> (simp only [zzN,zyA,or_false] at hx;rcases hx with rfl | rfl)
   ·exact hb
   ·exact hk
   ·exact hk
   ·exact hb
 behind:=fun n K h=>behind_of root .top (self_pos root .top) trivial n K h
variable {at_ pl:Nat} {nt:List Int}
end
end Go.Proofs.YtgkclnmmjedmkaaGreat.Mean
namespace Go.Proofs.YtgkclnmmjedmkaaGreat
open Tr Mach
namespace Mean
section
variable {t:List Int} {at_:Nat}
theorem one_fun {s a b:St} {k:Task} (h:One t at_ s k a) (g:One t at_ s k b):a=b:=by
 obtain ⟨n,hn⟩:=one_run h
 obtain ⟨m,hm⟩:=one_run g
 have h1:=run_more (s:=s) (hn 1 []) m
 have h2:=run_more (s:=s) (hm 1 []) n
 rw [show m+1+n=n+1+m from by omega] at h2
 rw [h1] at h2
 exact Option.some.inj h2
end
def Un.mapAd (f:Nat→Nat):Un→Un
 | .mk a k r b i z l=>.mk (f a) k r b i z (l.map (Un.mapAd f))
section
variable {f:Nat→Nat}
theorem mapAd_eq (u:Un):u.mapAd f=.mk (f u.ad) u.kind u.rng u.ast u.ix u.lz (u.subs.map (Un.mapAd f)):=by cases u;rw [Un.mapAd];rfl
theorem mapAd_ad (u:Un):(u.mapAd f).ad=f u.ad:=by rw [mapAd_eq];rfl
theorem mapAd_kind (u:Un):(u.mapAd f).kind=u.kind:=by rw [mapAd_eq];rfl
theorem mapAd_rng (u:Un):(u.mapAd f).rng=u.rng:=by rw [mapAd_eq];rfl
theorem mapAd_ast (u:Un):(u.mapAd f).ast=u.ast:=by rw [mapAd_eq];rfl
theorem mapAd_ix (u:Un):(u.mapAd f).ix=u.ix:=by rw [mapAd_eq];rfl
theorem mapAd_lz (u:Un):(u.mapAd f).lz=u.lz:=by rw [mapAd_eq];rfl
theorem mapAd_subs (u:Un):(u.mapAd f).subs=u.subs.map (Un.mapAd f):=by rw [mapAd_eq];rfl
theorem shU_eq (u:Un):shU u=.mk u.kind u.rng u.ast u.ix u.lz (u.subs.map shU):=by cases u;rw [shU,shUs_map];rfl
theorem mapAd_sh:∀ u:Un,shU (u.mapAd f)=shU u:=by
 intro u
 induction u using Un.ind with
 | h u ih =>
  rw [shU_eq,shU_eq u,mapAd_kind,mapAd_rng,mapAd_ast,mapAd_ix,mapAd_lz,mapAd_subs,List.map_map]
  congr 1
  exact List.map_congr_left fun x hx=>ih x hx
theorem mapAd_all:∀ u:Un,(u.mapAd f).all.map Un.ad=(u.all.map Un.ad).map f:=by
 intro u
 induction u using Un.ind with
 | h u ih =>
  rw [all_subs,all_subs u,zzS,zzS,zzS,mapAd_ad,mapAd_subs]
  congr 1
  have:∀ l:List Un,(∀ s∈l,(s.mapAd f).all.map Un.ad=(s.all.map Un.ad).map f)→(allU (l.map (Un.mapAd f))).map Un.ad=((allU l).map Un.ad).map f:=by
   intro l
   induction l with
   | nil=>intro _;rfl
   | cons s l ihl =>
    intro h
    rw [zzS,allU,allU,zzT,zzT,zzT,h s zzH,ihl fun x hx=>h x (zzI _ hx)]
  exact this u.subs ih
end
theorem eq_of:∀ u v:Un,shU u=shU v→u.all.map Un.ad=v.all.map Un.ad→u=v:=by
 intro u
 induction u using Un.ind with
 | h u ih =>
  intro v hs ha
  have hl:∀ l:List Un,(∀ s∈l,∀ v,shU s=shU v→s.all.map Un.ad=v.all.map Un.ad→s=v)→∀ l',shUs l=shUs l'→(allU l).map Un.ad=(allU l').map Un.ad→l=l':=by
   intro l
   induction l with
   | nil =>
    intro _ l' h1 _
    cases l' with
    | nil=>rfl
    | cons x l'=>rw [shUs,shUs] at h1;cases h1
   | cons s l ihl =>
    intro h l' h1 h2
    cases l' with
    | nil=>rw [shUs,shUs] at h1;cases h1
    | cons x l' =>
     rw [shUs,shUs] at h1
     injection h1 with e1 e2
     rw [allU,allU,zzT,zzT] at h2
     have hlen:(s.all.map Un.ad).length=(x.all.map Un.ad).length:=by rw [zzP,zzP,all_len,all_len,e1]
     obtain ⟨g1,g2⟩:=List.append_inj h2 hlen
     rw [h s zzH x e1 g1,ihl (fun y hy=>h y (zzI _ hy)) l' e2 g2]
  cases u with
  | mk a k r b i z l =>
   cases v with
   | mk a' k' r' b' i' z' l' =>
    rw [shU,shU] at hs
    injection hs with e1 e2 e3 e4 e5 e6
    rw [Un.all,Un.all,zzS,zzS] at ha
    injection ha with g1 g2
    have g1':a=a':=g1
    subst e1 e2 e3 e4 e5 g1'
    rw [hl l ih l' e6 g2]
theorem map_onto:∀ {X Y:List Nat},X.Nodup→X.length=Y.length→∃ f:Nat→Nat,X.map f=Y
 | [],[],_,_=>⟨fun x=>x,rfl⟩
 | x :: X,y :: Y,hn,hl=>by
  rw [List.nodup_cons] at hn
  obtain ⟨f,hf⟩:=map_onto hn.2 (by simpa using hl)
  refine ⟨fun a=>if a=x then y else f a,?_⟩
  rw [zzS,if_pos rfl,←hf]
  congr 1
  exact List.map_congr_left fun a ha=>if_neg fun e=>hn.1 (by rw [←e];exact ha)
theorem ren_ex {u v:Un} (hs:shU u=shU v) (hu:(u.all.map Un.ad).Nodup):∃ f,u.mapAd f=v:=by
 obtain ⟨f,hf⟩:=map_onto (X:=u.all.map Un.ad) (Y:=v.all.map Un.ad) hu (by rw [zzP,zzP,all_len,all_len,hs])
 exact ⟨f,eq_of _ _ (by rw [mapAd_sh,hs]) (by rw [mapAd_all,hf])⟩
def Kt.mapAd (f:Nat→Nat):Kt→Kt
 | .top=>.top
 | .row l K=>.row (l.map (Un.mapAd f)) (K.mapAd f)
 | .grp i K=>.grp i (K.mapAd f)
 | .dec n K=>.dec (n.mapAd f) (K.mapAd f)
def Task.mapAd (f:Nat→Nat):Task→Task
 | .beg n pl nt K=>.beg (n.mapAd f) pl nt (K.mapAd f)
 | .dcd n pl nt K=>.dcd (n.mapAd f) pl nt (K.mapAd f)
 | .go K pl nt=>.go (K.mapAd f) pl nt
section
variable {t:List Int} {at_:Nat} {f:Nat→Nat} {U:List Un}
theorem rowT_map (l:List Un) (pl:Nat) (nt:List Int) (K:Kt):(rowT l pl nt K).mapAd f=rowT (l.map (Un.mapAd f)) pl nt (K.mapAd f):=by cases l <;> rfl
theorem choose_map (n:Un) (pl:Nat) (nt:List Int) (A K:Kt):(choose n pl nt A K).map (Task.mapAd f)=choose (n.mapAd f) pl nt (A.mapAd f) (K.mapAd f):=by
 unfold choose
 rw [mapAd_subs,mapAd_lz]
 cases n.subs with
 | nil=>rfl
 | cons s l=>cases n.lz <;> rfl
theorem first_map (n:Un) (pl:Nat) (nt:List Int) (K:Kt):(first t n pl nt K).map (Task.mapAd f)=first t (n.mapAd f) pl nt (K.mapAd f):=by
 unfold first
 rw [mapAd_kind,mapAd_rng,mapAd_ast,mapAd_ix,mapAd_subs]
 by_cases k1:n.kind=1
 ·rw [if_pos k1,if_pos k1];rfl
 rw [if_neg k1,if_neg k1]
 by_cases k2:n.kind=2
 ·rw [if_pos k2,if_pos k2];split <;> rfl
 rw [if_neg k2,if_neg k2]
 by_cases k3:n.kind=3
 ·rw [if_pos k3,if_pos k3];split <;> rfl
 rw [if_neg k3,if_neg k3]
 by_cases k4:n.kind=4
 ·rw [if_pos k4,if_pos k4,List.map_singleton,rowT_map]
 rw [if_neg k4,if_neg k4]
 by_cases k5:n.kind=5
 ·rw [if_pos k5,if_pos k5,List.map_map,List.map_map];rfl
 rw [if_neg k5,if_neg k5]
 by_cases k7:n.kind=7
 ·rw [if_pos k7,if_pos k7];cases n.subs <;> rfl
 rw [if_neg k7,if_neg k7]
 by_cases m1:n.kind=-1
 ·rw [if_pos m1,if_pos m1];exact choose_map n pl nt K K
 rw [if_neg m1,if_neg m1]
 by_cases m2:n.kind=-2
 ·rw [if_pos m2,if_pos m2];rfl
 rw [if_neg m2,if_neg m2]
 by_cases m3:n.kind=-3
 ·rw [if_pos m3,if_pos m3];cases n.subs <;> rfl
 rw [if_neg m3,if_neg m3];rfl
def RenS (f:Nat→Nat) (U:List Un) (s s':St):Prop:=(∀ n∈U,∀ pl b,s'.met (f n.ad,pl,b)=s.met (n.ad,pl,b))∧s'.out=s.out
theorem ren_mark {s s':St} (hf:∀ a∈U,∀ b∈U,f a.ad=f b.ad→a.ad=b.ad) (h:RenS f U s s') {n:Un} (hn:n∈U) (pl:Nat) (b:Bool):RenS f U (s.mark (n.ad,pl,b)) (s'.mark (f n.ad,pl,b)):=by
 refine ⟨fun x hx p c=>?_,h.2⟩
 unfold St.mark
 simp only [Prod.mk.injEq]
 have:=h.1 x hx p c
 by_cases e:x.ad=n.ad∧p=pl∧c=b
 ·rw [if_pos e,if_pos ⟨by rw [e.1],e.2⟩,this]
 ·rw [if_neg e,if_neg fun g=>e ⟨hf x hx n hn g.1,g.2⟩,this]
theorem ren_work {s s':St} (hf:∀ a∈U,∀ b∈U,f a.ad=f b.ad→a.ad=b.ad) (h:RenS f U s s') {k:Task} (hk:k.uses U t.length):RenS f U (work t at_ s k).1 (work t at_ s' (k.mapAd f)).1∧(work t at_ s' (k.mapAd f)).2=(work t at_ s k).2.map (Task.mapAd f):=by
 cases k with
 | beg n pl nt K =>
  refine ⟨?_,?_⟩
  ·have:=ren_mark hf h hk.1 pl false
   simpa only [work,Task.mapAd,mapAd_ad] using this
  ·simp only [work,Task.mapAd,mapAd_ad,h.1 n hk.1]
   split
   ·exact (first_map n pl nt K).symm
   ·rfl
 | dcd n pl nt K =>
  refine ⟨?_,?_⟩
  ·have:=ren_mark hf h hk.1 pl true
   simpa only [work,Task.mapAd,mapAd_ad] using this
  ·simp only [work,Task.mapAd,mapAd_ad,h.1 n hk.1]
   split
   ·exact (choose_map n pl nt (.dec n K) K).symm
   ·rfl
 | go K pl nt =>
  cases K with
  | top =>
   refine ⟨?_,rfl⟩
   simp only [work,Task.mapAd,Kt.mapAd,ended,h.2]
   split
   ·exact h
   ·exact ⟨h.1,rfl⟩
  | row l K =>
   refine ⟨h,?_⟩
   show [rowT (l.map (Un.mapAd f)) pl nt (K.mapAd f)]=[(rowT l pl nt K).mapAd f]
   rw [rowT_map]
  | grp i K=>exact ⟨h,rfl⟩
  | dec n K=>exact ⟨h,rfl⟩
mutual
theorem ren_one (hU:Closed U) (hf:∀ a∈U,∀ b∈U,f a.ad=f b.ad→a.ad=b.ad):∀ {s s1:St} {k:Task},One t at_ s k s1→k.uses U t.length→∀ {s':St},RenS f U s s'→∃ s1',One t at_ s' (k.mapAd f) s1'∧RenS f U s1 s1'
 | s,s1,k,.mk h,hk,s',hr=>by
  obtain ⟨h1,h2⟩:=ren_work (at_:=at_) hf hr hk
  obtain ⟨s1',h3,h4⟩:=ren_many hU hf h (work_uses hU hk) h1
  exact ⟨s1',.mk (by rw [h2];exact h3),h4⟩
theorem ren_many (hU:Closed U) (hf:∀ a∈U,∀ b∈U,f a.ad=f b.ad→a.ad=b.ad):∀ {s s1:St} {l:List Task},Many t at_ s l s1→(∀ k∈l,k.uses U t.length)→∀ {s':St},RenS f U s s'→∃ s1',Many t at_ s' (l.map (Task.mapAd f)) s1'∧RenS f U s1 s1'
 | s,_,[],.nil,_,s',hr=>⟨s',.nil,hr⟩
 | s,s1,k :: l,.cons h1 h2,hk,s',hr=>by
  obtain ⟨sa,g1,g2⟩:=ren_one hU hf h1 (hk k zzH) hr
  obtain ⟨sb,g3,g4⟩:=ren_many hU hf h2 (fun x hx=>hk x (zzI _ hx)) g2
  exact ⟨sb,.cons g1 g3,g4⟩
end
end
theorem same_out {t:List Int} {at_ pl:Nat} {u v:Un} (hs:shU u=shU v) (hu:(u.all.map Un.ad).Nodup) (hv:(v.all.map Un.ad).Nodup) (hcl:Closed u.all) (hpl:pl≤t.length) {nt:List Int} {a b:St} (ha:One t at_ st0 (.beg u pl nt .top) a) (hb:One t at_ st0 (.beg v pl nt .top) b):b.out=a.out:=by
 obtain ⟨f,rfl⟩:=ren_ex hs hu
 have hf:∀ a∈u.all,∀ b∈u.all,f a.ad=f b.ad→a.ad=b.ad:=fun x hx y hy e=>by
  rw [mapAd_all] at hv
  exact nodup_one hv (zzk hx) (zzk hy) e
 have hself:u∈u.all:=by rw [all_subs];exact zzH
 obtain ⟨s1,h1,h2⟩:=ren_one (U:=u.all) hcl hf ha ⟨hself,hpl,trivial⟩ (s':=st0) ⟨fun _ _ _ _=>rfl,rfl⟩
 rw [one_fun hb h1]
 exact h2.2
theorem met_mark {s:St} {m x:Mark} (h:s.met x≠0):(s.mark m).met x≠0:=by unfold St.mark;simp only [];split <;> omega
theorem met_self (s:St) (m:Mark):(s.mark m).met m≠0:=by unfold St.mark;simp
theorem met_other {s:St} {m x:Mark} (h:x≠m):(s.mark m).met x=s.met x:=by unfold St.mark;simp [h]
end Mean
end Go.Proofs.YtgkclnmmjedmkaaGreat
namespace Go.Proofs.YtgkclnmmjedmkaaGreat
open Mach
namespace Mean
inductive Pc where
 | b (n:Un)
 | g (i:Int)
 | d (n:Un)
def pcs:Kt→List Pc
 | .top=>[]
 | .row l K=>l.map .b++pcs K
 | .grp i K=>.g i :: pcs K
 | .dec n K=>.d n :: pcs K
inductive FTask where
 | beg (n:Un) (pl:Nat) (nt:List Int) (F:List Pc)
 | dcd (n:Un) (pl:Nat) (nt:List Int) (F:List Pc)
 | top (pl:Nat) (nt:List Int)
def goF:List Pc→Nat→List Int→FTask
 | [],pl,nt=>.top pl nt
 | .b n :: F,pl,nt=>.beg n pl nt F
 | .g i :: F,pl,nt=>goF F pl (nt.set (2*i+1).toNat pl)
 | .d n :: F,pl,nt=>.dcd n pl nt F
def frT:Task→FTask
 | .beg n pl nt K=>.beg n pl nt (pcs K)
 | .dcd n pl nt K=>.dcd n pl nt (pcs K)
 | .go K pl nt=>goF (pcs K) pl nt
def chooseF (n:Un) (pl:Nat) (nt:List Int) (again F:List Pc):List FTask :=
 match n.subs with
 | []=>[]
 | s :: _=>if n.lz then [goF F pl nt,.beg s pl nt again] else [.beg s pl nt again,goF F pl nt]
def firstF (t:List Int) (n:Un) (pl:Nat) (nt:List Int) (F:List Pc):List FTask :=
 if n.kind=1 then [goF F pl nt]
 else if n.kind=2 then (if pl < t.length∧memB n.rng (t.getD pl 0)=true then [goF F (pl+1) nt] else [])
 else if n.kind=3 then (if asB t pl n.ast then [goF F pl nt] else [])
 else if n.kind=4 then [goF (n.subs.map .b++F) pl nt]
 else if n.kind=5 then n.subs.map fun s=>.beg s pl nt F
 else if n.kind=7 then (match n.subs with | []=>[] | s :: _=>[.beg s pl (nt.set (2*n.ix).toNat pl) (.g n.ix :: F)])
 else if n.kind=-1 then chooseF n pl nt F F
 else if n.kind=-2 then [.dcd n pl nt F]
 else if n.kind=-3 then (match n.subs with | []=>[] | s :: _=>[.beg s pl nt (.d n :: F)])
 else []
section
variable (t:List Int) (at_:Nat)
def workF (s:St):FTask→St × List FTask
 | .beg n pl nt F=>(s.mark (n.ad,pl,false),if s.met (n.ad,pl,false)=0 then firstF t n pl nt F else [])
 | .dcd n pl nt F=>(s.mark (n.ad,pl,true),if s.met (n.ad,pl,true)=0 then chooseF n pl nt (.d n :: F) F else [])
 | .top pl nt=>(ended at_ s pl nt,[])
mutual
inductive OneF:St→FTask→St→Prop where
 | mk {s s':St} {k:FTask}:ManyF (workF t at_ s k).1 (workF t at_ s k).2 s'→OneF s k s'
inductive ManyF:St→List FTask→St→Prop where
 | nil {s:St}:ManyF s [] s
 | cons {s s1 s2:St} {k:FTask} {l:List FTask}:OneF s k s1→ManyF s1 l s2→ManyF s (k :: l) s2
end
end
section
variable {t:List Int} {at_:Nat}
theorem frT_rowT (l:List Un) (pl:Nat) (nt:List Int) (K:Kt):frT (rowT l pl nt K)=goF (l.map .b++pcs K) pl nt:=by cases l <;> rfl
theorem choose_fr (n:Un) (pl:Nat) (nt:List Int) (A K:Kt):(choose n pl nt A K).map frT=chooseF n pl nt (pcs A) (pcs K):=by
 unfold choose chooseF
 cases n.subs with
 | nil=>rfl
 | cons s l=>cases n.lz <;> rfl
theorem first_fr (n:Un) (pl:Nat) (nt:List Int) (K:Kt):(first t n pl nt K).map frT=firstF t n pl nt (pcs K):=by
 unfold first firstF
 by_cases k1:n.kind=1
 ·rw [if_pos k1,if_pos k1];rfl
 rw [if_neg k1,if_neg k1]
 by_cases k2:n.kind=2
 ·rw [if_pos k2,if_pos k2];split <;> rfl
 rw [if_neg k2,if_neg k2]
 by_cases k3:n.kind=3
 ·rw [if_pos k3,if_pos k3];split <;> rfl
 rw [if_neg k3,if_neg k3]
 by_cases k4:n.kind=4
 ·rw [if_pos k4,if_pos k4,zzS,zzt,frT_rowT]
 rw [if_neg k4,if_neg k4]
 by_cases k5:n.kind=5
 ·rw [if_pos k5,if_pos k5,List.map_map];rfl
 rw [if_neg k5,if_neg k5]
 by_cases k7:n.kind=7
 ·rw [if_pos k7,if_pos k7];cases n.subs <;> rfl
 rw [if_neg k7,if_neg k7]
 by_cases m1:n.kind=-1
 ·rw [if_pos m1,if_pos m1];exact choose_fr n pl nt K K
 rw [if_neg m1,if_neg m1]
 by_cases m2:n.kind=-2
 ·rw [if_pos m2,if_pos m2];rfl
 rw [if_neg m2,if_neg m2]
 by_cases m3:n.kind=-3
 ·rw [if_pos m3,if_pos m3];cases n.subs <;> rfl
 rw [if_neg m3,if_neg m3];rfl
theorem manyF_one {s s1:St} {k:FTask} (h:ManyF t at_ s [k] s1):OneF t at_ s k s1:=by
 cases h with
 | cons h1 h2=>cases h2;exact h1
mutual
theorem one_f:∀ {s s1:St} {k:Task},One t at_ s k s1→OneF t at_ s (frT k) s1
 | s,s1,.beg n pl nt K,.mk h=>.mk (by
   have:=many_f h
   simp only [work] at this
   show ManyF t at_ (s.mark (n.ad,pl,false)) (if s.met (n.ad,pl,false)=0 then firstF t n pl nt (pcs K) else []) s1
   split at this
   ·rename_i h0
    rw [if_pos h0,←first_fr];exact this
   ·rename_i h0
    rw [if_neg h0];exact this)
 | s,s1,.dcd n pl nt K,.mk h=>.mk (by
   have:=many_f h
   simp only [work] at this
   show ManyF t at_ (s.mark (n.ad,pl,true)) (if s.met (n.ad,pl,true)=0 then chooseF n pl nt (.d n :: pcs K) (pcs K) else []) s1
   split at this
   ·rename_i h0
    rw [if_pos h0,show Pc.d n :: pcs K=pcs (.dec n K) from rfl,←choose_fr];exact this
   ·rename_i h0
    rw [if_neg h0];exact this)
 | s,s1,.go .top pl nt,.mk h=>.mk (many_f h)
 | s,s1,.go (.row l K) pl nt,.mk h=>by
   have:=manyF_one (many_f h)
   rw [frT_rowT] at this
   exact this
 | s,s1,.go (.grp i K) pl nt,.mk h=>manyF_one (many_f h)
 | s,s1,.go (.dec n K) pl nt,.mk h=>manyF_one (many_f h)
theorem many_f:∀ {s s1:St} {l:List Task},Many t at_ s l s1→ManyF t at_ s (l.map frT) s1
 | _,_,[],.nil=>.nil
 | _,_,_ :: _,.cons h1 h2=>.cons (one_f h1) (many_f h2)
end
mutual
theorem oneF_fun:∀ {s a b:St} {k:FTask},OneF t at_ s k a→OneF t at_ s k b→a=b
 | _,_,_,_,.mk h,.mk g=>manyF_fun h g
theorem manyF_fun:∀ {s a b:St} {l:List FTask},ManyF t at_ s l a→ManyF t at_ s l b→a=b
 | _,_,_,[],.nil,.nil=>rfl
 | _,_,_,_ :: _,.cons h1 h2,.cons g1 g2=>by
  cases oneF_fun h1 g1
  exact manyF_fun h2 g2
end
def StartedT (s:St):FTask→Prop
 | .beg n pl _ _=>s.met (n.ad,pl,false)≠0
 | .dcd n pl _ _=>s.met (n.ad,pl,true)≠0
 | .top pl _=>(s.out.any fun p=>p.1==pl)=true
theorem started_nt {s:St} {pl:Nat}:∀ (F:List Pc) (nt nt':List Int),StartedT s (goF F pl nt)→StartedT s (goF F pl nt'):=by
 intro F
 induction F with
 | nil=>exact fun _ _ h=>h
 | cons x F ih =>
  cases x with
  | b n=>exact fun _ _ h=>h
  | g i=>exact fun _ _ h=>ih _ _ h
  | d n=>exact fun _ _ h=>h
theorem ended_met (s:St) (pl:Nat) (nt:List Int) (m:Mark):(ended at_ s pl nt).met m=s.met m:=by unfold ended;split <;> rfl
theorem started_work (s:St) (k:FTask):StartedT (workF t at_ s k).1 k:=by
 cases k with
 | beg n pl nt F=>exact met_self _ _
 | dcd n pl nt F=>exact met_self _ _
 | top pl nt =>
  show ((ended at_ s pl nt).out.any fun p=>p.1==pl)=true
  unfold ended
  split
  ·assumption
  ·rw [List.any_append];simp
theorem started_grows {s:St} {k:FTask} (x:FTask) (h:StartedT s k):StartedT (workF t at_ s x).1 k:=by
 have hm:∀ m,s.met m≠0→(workF t at_ s x).1.met m≠0:=fun m h=>by
  cases x with
  | beg n pl nt F=>exact met_mark h
  | dcd n pl nt F=>exact met_mark h
  | top pl nt=>rw [show (workF t at_ s (.top pl nt)).1=ended at_ s pl nt from rfl,ended_met];exact h
 have ho:∀ pl,(s.out.any fun p=>p.1==pl)=true→((workF t at_ s x).1.out.any fun p=>p.1==pl)=true:=fun q h=>by
  cases x with
  | beg n pl nt F=>exact h
  | dcd n pl nt F=>exact h
  | top pl nt =>
   show ((ended at_ s pl nt).out.any fun p=>p.1==q)=true
   unfold ended
   split
   ·exact h
   ·rw [List.any_append,h];rfl
 cases k with
 | beg n pl nt F=>exact hm _ h
 | dcd n pl nt F=>exact hm _ h
 | top pl nt=>exact ho _ h
theorem skipF {s:St} {k:FTask} (h:StartedT s k):∃ s1,OneF t at_ s k s1∧(∀ m,s.met m=0 ↔ s1.met m=0)∧s.out=s1.out∧∀ x,StartedT s x→StartedT s1 x:=by
 have hk:(workF t at_ s k).2=[]:=by
  cases k with
  | beg n pl nt F=>exact if_neg h
  | dcd n pl nt F=>exact if_neg h
  | top pl nt=>rfl
 have hmk:∀ m,s.met m≠0→∀ x,s.met x=0 ↔ (s.mark m).met x=0:=fun m hm x=>by
  by_cases e:x=m
  ·rw [e];exact ⟨fun g=>absurd g hm,fun g=>absurd g (met_self s m)⟩
  ·rw [met_other e]
 refine ⟨(workF t at_ s k).1,.mk (by rw [hk];exact .nil),?_,?_,fun x hx=>started_grows k hx⟩
 ·cases k with
  | beg n pl nt F=>exact hmk _ h
  | dcd n pl nt F=>exact hmk _ h
  | top pl nt=>intro m;rw [show (workF t at_ s (.top pl nt)).1=ended at_ s pl nt from rfl,ended_met]
 ·cases k with
  | beg n pl nt F=>rfl
  | dcd n pl nt F=>rfl
  | top pl nt =>
   show s.out=(ended at_ s pl nt).out
   unfold ended
   rw [if_pos (show (s.out.any fun p=>p.1==pl)=true from h)]
end
end Mean
namespace Mean
mutual
def rmN (a:Nat):Un→List Un
 | .mk ad k r b i z l=>if ad=a then rmL a l else [.mk ad k r b i z (rmL a l)]
def rmL (a:Nat):List Un→List Un
 | []=>[]
 | u :: l=>rmN a u++rmL a l
end
def rm1 (a:Nat) (n:Un):Un:=.mk n.ad n.kind n.rng n.ast n.ix n.lz (rmL a n.subs)
def rmP (a:Nat):Pc→List Pc
 | .b n=>(rmN a n).map .b
 | .g i=>[.g i]
 | .d n=>[.d (rm1 a n)]
def rmF (a:Nat) (F:List Pc):List Pc:=F.flatMap (rmP a)
def rmT (a:Nat):FTask→FTask
 | .beg n pl nt F=>goF ((rmN a n).map .b++rmF a F) pl nt
 | .dcd n pl nt F=>.dcd (rm1 a n) pl nt (rmF a F)
 | .top pl nt=>.top pl nt
section
variable {t:List Int} {at_:Nat} {a:Nat}
theorem rmN_self {n:Un} (h:n.ad=a):rmN a n=rmL a n.subs:=by
 cases n with
 | mk ad k r b i z l=>rw [rmN,if_pos (show ad=a from h)];rfl
theorem rmN_other {n:Un} (h:n.ad≠a):rmN a n=[rm1 a n]:=by
 cases n with
 | mk ad k r b i z l=>rw [rmN,if_neg (show ad≠a from h)];rfl
theorem rmF_append (F G:List Pc):rmF a (F++G)=rmF a F++rmF a G:=by unfold rmF;rw [List.flatMap_append]
theorem rmF_subs:∀ l:List Un,rmF a (l.map .b)=(rmL a l).map .b
 | []=>rfl
 | u :: l=>by
  show rmP a (.b u)++rmF a (l.map .b)=_
  rw [rmF_subs l,rmL,zzT];rfl
theorem rmT_go:∀ (F:List Pc) (pl:Nat) (nt:List Int),rmT a (goF F pl nt)=goF (rmF a F) pl nt:=by
 intro F
 induction F with
 | nil=>exact fun _ _=>rfl
 | cons x F ih =>
  intro pl nt
  cases x with
  | b n=>rfl
  | g i=>exact ih pl _
  | d n=>rfl
theorem rmT_row (l:List Un) (F:List Pc) (pl:Nat) (nt:List Int):rmT a (goF (l.map .b++F) pl nt)=goF ((rmL a l).map .b++rmF a F) pl nt:=by rw [rmT_go,rmF_append,rmF_subs]
theorem rmT_one {n x:Un} (h:rmN a n=[x]) (pl:Nat) (nt:List Int) (F:List Pc):rmT a (.beg n pl nt F)=.beg x pl nt (rmF a F):=by
 show goF ((rmN a n).map .b++rmF a F) pl nt=_
 rw [h];rfl
theorem choose_rm {n:Un} (h:∀ s∈n.subs,∃ x,rmN a s=[x]) (pl:Nat) (nt:List Int) (A F:List Pc):(chooseF n pl nt A F).map (rmT a)=chooseF (rm1 a n) pl nt (rmF a A) (rmF a F):=by
 unfold chooseF
 show _=match rmL a n.subs with | []=>[] | s :: _=>_
 cases hs:n.subs with
 | nil=>rfl
 | cons s l =>
  obtain ⟨x,hx⟩:=h s (by rw [hs];exact zzH)
  rw [rmL,hx]
  show _=if n.lz=true then _ else _
  simp only []
  cases n.lz
  ·simp only [Bool.false_eq_true,if_false,zzS,zzt,rmT_go,rmT_one hx]
  ·simp only [if_true,zzS,zzt,rmT_go,rmT_one hx]
theorem first_rm {n:Un} (h:n.kind≠4→∀ s∈n.subs,∃ x,rmN a s=[x]) (pl:Nat) (nt:List Int) (F:List Pc):(firstF t n pl nt F).map (rmT a)=firstF t (rm1 a n) pl nt (rmF a F):=by
 unfold firstF
 show _=if n.kind=1 then _ else if n.kind=2 then (if pl < t.length∧memB n.rng (t.getD pl 0)=true then _ else _) else if n.kind=3 then (if asB t pl n.ast then _ else _) else if n.kind=4 then [goF ((rmL a n.subs).map .b++rmF a F) pl nt] else if n.kind=5 then (rmL a n.subs).map _ else if n.kind=7 then (match rmL a n.subs with | []=>[] | s :: _=>_) else if n.kind=-1 then _ else if n.kind=-2 then _ else if n.kind=-3 then (match rmL a n.subs with | []=>[] | s :: _=>_) else []
 by_cases k1:n.kind=1
 ·rw [if_pos k1,if_pos k1,zzS,zzt,rmT_go]
 rw [if_neg k1,if_neg k1]
 by_cases k2:n.kind=2
 ·rw [if_pos k2,if_pos k2]
  split
  ·rw [zzS,zzt,rmT_go]
  ·rfl
 rw [if_neg k2,if_neg k2]
 by_cases k3:n.kind=3
 ·rw [if_pos k3,if_pos k3]
  split
  ·rw [zzS,zzt,rmT_go]
  ·rfl
 rw [if_neg k3,if_neg k3]
 by_cases k4:n.kind=4
 ·rw [if_pos k4,if_pos k4,zzS,zzt,rmT_row]
 rw [if_neg k4,if_neg k4]
 have h:=h k4
 by_cases k5:n.kind=5
 ·rw [if_pos k5,if_pos k5,List.map_map]
  generalize n.subs=l at h
  induction l with
  | nil=>rfl
  | cons s l ih =>
   obtain ⟨x,hx⟩:=h s zzH
   rw [rmL,hx,zzS,List.singleton_append,zzS,ih fun y hy=>h y (zzI _ hy)]
   congr 1
   exact rmT_one hx pl nt F
 rw [if_neg k5,if_neg k5]
 have hone:∀ s l,n.subs=s :: l→∃ x,rmN a s=[x]∧rmL a n.subs=x :: rmL a l:=fun s l hs=>by
  obtain ⟨x,hx⟩:=h s (by rw [hs];exact zzH)
  exact ⟨x,hx,by rw [hs,rmL,hx];rfl⟩
 by_cases k7:n.kind=7
 ·rw [if_pos k7,if_pos k7]
  cases hs:n.subs with
  | nil=>rfl
  | cons s l =>
   obtain ⟨x,hx,hl⟩:=hone s l hs
   rw [hs] at hl
   rw [hl]
   simp only [zzS,zzt,rmT_one hx]
   rfl
 rw [if_neg k7,if_neg k7]
 by_cases m1:n.kind=-1
 ·rw [if_pos m1,if_pos m1];exact choose_rm h pl nt F F
 rw [if_neg m1,if_neg m1]
 by_cases m2:n.kind=-2
 ·rw [if_pos m2,if_pos m2];rfl
 rw [if_neg m2,if_neg m2]
 by_cases m3:n.kind=-3
 ·rw [if_pos m3,if_pos m3]
  cases hs:n.subs with
  | nil=>rfl
  | cons s l =>
   obtain ⟨x,hx,hl⟩:=hone s l hs
   rw [hs] at hl
   rw [hl]
   simp only [zzS,zzt,rmT_one hx]
   rfl
 rw [if_neg m3,if_neg m3];rfl
def RmR (a:Nat) (s s':St):Prop:=(∀ ad pl b,ad≠a→(s.met (ad,pl,b)=0 ↔ s'.met (ad,pl,b)=0))∧s.out=s'.out
def RmI (a:Nat) (F0:List Pc) (p:Option Nat) (s s':St):Prop:=∀ pl,s.met (a,pl,false)≠0→p=some pl∨∀ nt,StartedT s' (goF F0 pl nt)
def RmK (a:Nat) (F0:List Pc) (p:Option Nat) (k:FTask):Prop:=∀ pl,p=some pl→(∃ nt,rmT a k=goF F0 pl nt)∧∀ n q nt F,k=.beg n q nt F→n.ad≠a
theorem rmR_mark {s s':St} (h:RmR a s s') (m:Mark):RmR a (s.mark m) (s'.mark m):=by
 refine ⟨fun ad pl b ha=>?_,h.2⟩
 by_cases e:(ad,pl,b)=m
 ·rw [e];exact ⟨fun h=>absurd h (met_self s m),fun h=>absurd h (met_self s' m)⟩
 ·rw [met_other e,met_other e];exact h.1 ad pl b ha
theorem rmR_left {s s':St} (h:RmR a s s') (pl:Nat) (b:Bool):RmR a (s.mark (a,pl,b)) s':=by
 refine ⟨fun ad q b' ha=>?_,h.2⟩
 rw [met_other (by simp only [ne_eq,Prod.mk.injEq];exact fun e=>ha e.1)]
 exact h.1 ad q b' ha
theorem rmI_step {F0:List Pc} {p:Option Nat} {s s1 s':St} {k':FTask} (hi:RmI a F0 p s s') (hk:∀ pl,p=some pl→∃ nt,k'=goF F0 pl nt) (hm:∀ pl,s1.met (a,pl,false)≠0→s.met (a,pl,false)≠0):RmI a F0 none s1 (workF t at_ s' k').1:=by
 intro pl h1
 refine .inr fun nt=>?_
 rcases hi pl (hm pl h1) with h2 | h2
 ·obtain ⟨nt0,h3⟩:=hk pl h2
  have:=started_work (t:=t) (at_:=at_) s' k'
  rw [h3] at this ⊢
  exact started_nt F0 nt0 nt this
 ·exact started_grows k' (h2 nt)
variable {P:Un→Kt→Prop} {c:Un} {Kc:Kt} {F0:List Pc}
theorem rm_st {s:St} {K:Kt} {pl:Nat} {nt:List Int} (hk:KSt P K):∀ x∈(work t at_ s (.go K pl nt)).2,TSt P x:=by
 intro x hx
 cases K with
 | top=>cases hx
 | row l K =>
  have e:x=rowT l pl nt K:=by simpa [work] using hx
  rw [e]
  cases l with
  | nil=>exact hk.2
  | cons y l=>exact hk.1.1
 | grp i K =>
  have e:x=.go K pl (nt.set (2*i+1).toNat pl):=by simpa [work] using hx
  rw [e];exact hk
 | dec n K =>
  have e:x=.dcd n pl nt K:=by simpa [work] using hx
  rw [e];exact hk.1
mutual
theorem rm_one (hP:Place t P) (hc:P c Kc) (hF:F0=(rmL c.ad c.subs).map .b++rmF c.ad (pcs Kc)) (hck:c.kind=4∨c.kind=1∧c.subs=[]) (hsg:∀ p K,P p K→p.ad≠c.ad→p.kind≠4→∀ s∈p.subs,∃ x,rmN c.ad s=[x]) (hnc:∀ pl nt n q nt' F,goF (c.subs.map .b++pcs Kc) pl nt=.beg n q nt' F→n.ad≠c.ad) :
  ∀ {s s1:St} {k:Task},One t at_ s k s1→TSt P k→∀ {p:Option Nat} {s':St},RmR c.ad s s'→RmI c.ad F0 p s s'→RmK c.ad F0 p (frT k)→∃ s1',OneF t at_ s' (rmT c.ad (frT k)) s1'∧RmR c.ad s1 s1'∧RmI c.ad F0 none s1 s1'
 | s,s1,.beg n pl nt K,.mk h,hk,p,s',hr,hi,hp=>by
  have IH:=fun (hl:∀ x∈(work t at_ s (.beg n pl nt K)).2,TSt P x) {p:Option Nat} {s':St}=>rm_many hP hc hF hck hsg hnc h hl (p:=p) (s':=s')
  have hPn:P n K:=hk
  by_cases e:n.ad=c.ad
  ·obtain ⟨rfl,rfl⟩:=hP.one n K c Kc hPn hc e
   have hpn:p=none:=by
    cases p with
    | none=>rfl
    | some q=>exact absurd rfl ((hp q rfl).2 n pl nt (pcs K) rfl)
   subst hpn
   have hk':rmT n.ad (frT (.beg n pl nt K))=goF F0 pl nt:=by
    show goF ((rmN n.ad n).map .b++rmF n.ad (pcs K)) pl nt=_
    rw [rmN_self rfl,hF]
   have hfi:firstF t n pl nt (pcs K)=[goF (n.subs.map .b++pcs K) pl nt]:=by
    unfold firstF
    rcases hck with h4 | ⟨h1,h2⟩
    ·rw [if_neg (by rw [h4];decide),if_neg (by rw [h4];decide),if_neg (by rw [h4];decide),if_pos h4]
    ·rw [if_pos h1,h2];rfl
   by_cases h0:s.met (n.ad,pl,false)=0
   ·have hw:(work t at_ s (.beg n pl nt K)).2=first t n pl nt K:=if_pos h0
    have hfr:((work t at_ s (.beg n pl nt K)).2.map frT)=[goF (n.subs.map .b++pcs K) pl nt]:=by rw [hw,first_fr,hfi]
    obtain ⟨k2,hk2⟩:∃ k2,(work t at_ s (.beg n pl nt K)).2=[k2]:=by
     cases hq:(work t at_ s (.beg n pl nt K)).2 with
     | nil=>rw [hq] at hfr;cases hfr
     | cons x l =>
      rw [hq] at hfr
      cases l with
      | nil=>exact ⟨x,rfl⟩
      | cons y l=>exact absurd (congrArg List.length hfr) (by simp)
    have hk2f:frT k2=goF (n.subs.map .b++pcs K) pl nt:=by rw [hk2] at hfr;simpa using hfr
    have hk2r:rmT n.ad (frT k2)=goF F0 pl nt:=by rw [hk2f,rmT_row,hF]
    obtain ⟨s1',g1,g2,g3⟩:=IH (by rw [hw];exact hP.first n K hPn pl nt) (p:=some pl) (s':=s') (rmR_left hr pl false) (fun q hq=>by
     by_cases eq:q=pl
     ·exact .inl (by rw [eq])
     ·refine .inr ((hi q ?_).resolve_left (by simp))
      have hq2:(s.mark (n.ad,pl,false)).met (n.ad,q,false)≠0:=hq
      rwa [met_other (by simp only [ne_eq,Prod.mk.injEq,true_and,and_true];exact eq)] at hq2) (fun q hq=>by
     cases hq
     exact ⟨k2,[],hk2,⟨nt,hk2r⟩,fun x y z F ex=>hnc pl nt x y z F (by rw [←hk2f];exact ex)⟩)
    rw [hk2,zzS,zzt,hk2r] at g1
    exact ⟨s1',by rw [hk'];exact manyF_one g1,g2,g3⟩
   ·have hs1:s1=s.mark (n.ad,pl,false):=by
     have h2:=h
     simp only [work] at h2
     rw [if_neg h0] at h2
     cases h2
     rfl
    subst hs1
    obtain ⟨s1',g1,g2,g3,g4⟩:=skipF (t:=t) (at_:=at_) (((hi pl h0).resolve_left (by simp)) nt)
    refine ⟨s1',by rw [hk'];exact g1,⟨fun ad q b ha=>((rmR_left hr pl false).1 ad q b ha).trans (g2 _),(rmR_left hr pl false).2.trans g3⟩,fun q hq=>.inr fun nt2=>g4 _ (((hi q ?_).resolve_left (by simp)) nt2)⟩
    by_cases eq:q=pl
    ·rw [eq];exact h0
    ·rwa [met_other (by simp only [ne_eq,Prod.mk.injEq,true_and,and_true];exact eq)] at hq
  ·have hk':rmT c.ad (frT (.beg n pl nt K))=.beg (rm1 c.ad n) pl nt (rmF c.ad (pcs K)):=rmT_one (rmN_other e) pl nt (pcs K)
   have hpk:=fun q hq=>(hp q hq).1
   rw [hk'] at hpk ⊢
   have hi2:=rmI_step (t:=t) (at_:=at_) (s1:=s.mark (n.ad,pl,false)) hi hpk (fun q hq=>by
    rwa [met_other (by simp only [ne_eq,Prod.mk.injEq];exact fun g=>e g.1.symm)] at hq)
   have hr2:=rmR_mark hr (n.ad,pl,false)
   have hz:s.met (n.ad,pl,false)=0 ↔ s'.met (n.ad,pl,false)=0:=hr.1 n.ad pl false e
   obtain ⟨s1',g1,g2,g3⟩:=IH (fun x hx=>by
    simp only [work] at hx
    split at hx
    ·exact hP.first n K hPn pl nt x hx
    ·cases hx) (p:=none) (s':=s'.mark (n.ad,pl,false)) hr2 hi2 (fun q hq=>by cases hq)
   refine ⟨s1',.mk ?_,g2,g3⟩
   have hw:(workF t at_ s' (.beg (rm1 c.ad n) pl nt (rmF c.ad (pcs K)))).2=((work t at_ s (.beg n pl nt K)).2).map fun x=>rmT c.ad (frT x):=by
    show (if s'.met (n.ad,pl,false)=0 then firstF t (rm1 c.ad n) pl nt (rmF c.ad (pcs K)) else [])=(if s.met (n.ad,pl,false)=0 then first t n pl nt K else []).map _
    by_cases h0:s.met (n.ad,pl,false)=0
    ·rw [if_pos h0,if_pos (hz.1 h0),←first_rm (hsg n K hPn e),←first_fr,List.map_map];rfl
    ·rw [if_neg h0,if_neg fun g=>h0 (hz.2 g)];rfl
   rw [hw];exact g1
 | s,s1,.dcd n pl nt K,.mk h,hk,p,s',hr,hi,hp=>by
  have IH:=fun (hl:∀ x∈(work t at_ s (.dcd n pl nt K)).2,TSt P x) {p:Option Nat} {s':St}=>rm_many hP hc hF hck hsg hnc h hl (p:=p) (s':=s')
  have hPn:P n K:=hk.1
  have hlo:n.Loops:=hk.2
  have e:n.ad≠c.ad:=fun e=>by
   obtain ⟨rfl,rfl⟩:=hP.one n K c Kc hPn hc e
   rcases hck with h4 | ⟨h4,-⟩ <;> rcases hlo with h2 | h2 <;> rw [h4] at h2 <;> exact absurd h2 (by decide)
  have k4:n.kind≠4:=by rcases hlo with h2 | h2 <;> rw [h2] <;> decide
  have hpk:∀ q,p=some q→∃ nt2,FTask.dcd (rm1 c.ad n) pl nt (rmF c.ad (pcs K))=goF F0 q nt2:=fun q hq=>(hp q hq).1
  have hi2:=rmI_step (t:=t) (at_:=at_) (s1:=s.mark (n.ad,pl,true)) hi hpk (fun q hq=>by
   rwa [met_other (by simp)] at hq)
  have hr2:=rmR_mark hr (n.ad,pl,true)
  have hz:s.met (n.ad,pl,true)=0 ↔ s'.met (n.ad,pl,true)=0:=hr.1 n.ad pl true e
  obtain ⟨s1',g1,g2,g3⟩:=IH (fun x hx=>by
   simp only [work] at hx
   split at hx
   ·exact hP.decide n K hPn hlo pl nt x hx
   ·cases hx) (p:=none) (s':=s'.mark (n.ad,pl,true)) hr2 hi2 (fun q hq=>by cases hq)
  have hk':rmT c.ad (frT (.dcd n pl nt K))=.dcd (rm1 c.ad n) pl nt (rmF c.ad (pcs K)):=rfl
  rw [hk']
  refine ⟨s1',.mk ?_,g2,g3⟩
  have hw:(workF t at_ s' (.dcd (rm1 c.ad n) pl nt (rmF c.ad (pcs K)))).2=((work t at_ s (.dcd n pl nt K)).2).map fun x=>rmT c.ad (frT x):=by
   show (if s'.met (n.ad,pl,true)=0 then chooseF (rm1 c.ad n) pl nt (.d (rm1 c.ad n) :: rmF c.ad (pcs K)) (rmF c.ad (pcs K)) else [])=(if s.met (n.ad,pl,true)=0 then choose n pl nt (.dec n K) K else []).map _
   by_cases h0:s.met (n.ad,pl,true)=0
   ·rw [if_pos h0,if_pos (hz.1 h0),show Pc.d (rm1 c.ad n) :: rmF c.ad (pcs K)=rmF c.ad (pcs (.dec n K)) from rfl,←choose_rm (hsg n K hPn e k4),←choose_fr,List.map_map];rfl
   ·rw [if_neg h0,if_neg fun g=>h0 (hz.2 g)];rfl
  rw [hw];exact g1
 | s,s1,.go .top pl nt,.mk h,hk,p,s',hr,hi,hp=>by
  have h2:=h
  simp only [work] at h2
  cases h2
  have hi2:=rmI_step (t:=t) (at_:=at_) (s1:=ended at_ s pl nt) (k':=.top pl nt) hi (fun q hq=>(hp q hq).1) (fun q hq=>by rwa [ended_met] at hq)
  refine ⟨ended at_ s' pl nt,.mk .nil,⟨fun ad q b ha=>?_,?_⟩,hi2⟩
  ·rw [ended_met,ended_met];exact hr.1 ad q b ha
  ·unfold ended
   rw [hr.2]
   split
   ·exact hr.2
   ·rfl
 | s,s1,.go (.row l K) pl nt,.mk h,hk,p,s',hr,hi,hp=>by
  have e:frT (rowT l pl nt K)=frT (.go (.row l K) pl nt):=frT_rowT l pl nt K
  obtain ⟨s1',g1,g2,g3⟩:=rm_many hP hc hF hck hsg hnc h (fun x hx=>rm_st hk x hx) (p:=p) (s':=s') hr hi (fun q hq=>⟨_,[],rfl,by rw [e];exact hp q hq⟩)
  simp only [work,zzS,zzt] at g1
  rw [e] at g1
  exact ⟨s1',manyF_one g1,g2,g3⟩
 | s,s1,.go (.grp i K) pl nt,.mk h,hk,p,s',hr,hi,hp=>by
  obtain ⟨s1',g1,g2,g3⟩:=rm_many hP hc hF hck hsg hnc h (fun x hx=>rm_st hk x hx) (p:=p) (s':=s') hr hi (fun q hq=>⟨_,[],rfl,hp q hq⟩)
  exact ⟨s1',manyF_one g1,g2,g3⟩
 | s,s1,.go (.dec n K) pl nt,.mk h,hk,p,s',hr,hi,hp=>by
  obtain ⟨s1',g1,g2,g3⟩:=rm_many hP hc hF hck hsg hnc h (fun x hx=>rm_st hk x hx) (p:=p) (s':=s') hr hi (fun q hq=>⟨_,[],rfl,hp q hq⟩)
  exact ⟨s1',manyF_one g1,g2,g3⟩
theorem rm_many (hP:Place t P) (hc:P c Kc) (hF:F0=(rmL c.ad c.subs).map .b++rmF c.ad (pcs Kc)) (hck:c.kind=4∨c.kind=1∧c.subs=[]) (hsg:∀ p K,P p K→p.ad≠c.ad→p.kind≠4→∀ s∈p.subs,∃ x,rmN c.ad s=[x]) (hnc:∀ pl nt n q nt' F,goF (c.subs.map .b++pcs Kc) pl nt=.beg n q nt' F→n.ad≠c.ad) :
  ∀ {s s1:St} {l:List Task},Many t at_ s l s1→(∀ k∈l,TSt P k)→∀ {p:Option Nat} {s':St},RmR c.ad s s'→RmI c.ad F0 p s s'→(∀ pl,p=some pl→∃ k q,l=k :: q∧(∃ nt,rmT c.ad (frT k)=goF F0 pl nt)∧∀ n q nt F,frT k=.beg n q nt F→n.ad≠c.ad)→∃ s1',ManyF t at_ s' (l.map fun x=>rmT c.ad (frT x)) s1'∧RmR c.ad s1 s1'∧RmI c.ad F0 none s1 s1'
 | s,_,[],.nil,_,p,s',hr,hi,hp=>by
  cases p with
  | none=>exact ⟨s',.nil,hr,hi⟩
  | some q=>obtain ⟨k,l,e,-⟩:=hp q rfl;cases e
 | s,s1,k :: l,.cons h1 h2,hk,p,s',hr,hi,hp=>by
  obtain ⟨sa,g1,g2,g3⟩:=rm_one hP hc hF hck hsg hnc h1 (hk k zzH) hr hi (fun q hq=>by
   obtain ⟨k',l',e,h3,h4⟩:=hp q hq
   injection e with e1 e2
   subst e1
   exact ⟨h3,h4⟩)
  obtain ⟨sb,g4,g5,g6⟩:=rm_many hP hc hF hck hsg hnc h2 (fun x hx=>hk x (zzI _ hx)) g2 g3 (fun q hq=>by cases hq)
  exact ⟨sb,.cons g1 g4,g5,g6⟩
end
end
end Mean
end Go.Proofs.YtgkclnmmjedmkaaGreat
