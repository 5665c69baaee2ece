/- One node of an unfolded tree is taken out, what it holds put in its place: the same parses. No program here. -/
import Derived.Test.YtkhkllpdhnmhkaaP00
import Derived.Test.YtkhkllpdhnmhkaaP02
import Derived.Test.YtkhkllpdhnmhkaaP05
namespace Go.Proofs.Ytkhkllpdhnmhkaa
open Mach
namespace Mean
mutual
def rmN (a:Nat):Un→List Un
 | .mk ad k r b i z l=>if ad=a then rmL a l else [.mk ad k r b i z (rmL a l)]
def rmL (a:Nat):List Un→List Un
 | []=>[]
 | u :: l=>rmN a u++rmL a l
end
def rm1 (a:Nat) (n:Un):Un:=.mk n.ad n.kind n.rng n.ast n.ix n.lz (rmL a n.subs)
def rmP (a:Nat):Pc→List Pc
 | .b n=>(rmN a n).map .b
 | .g i=>[.g i]
 | .d n=>[.d (rm1 a n)]
def rmF (a:Nat) (F:List Pc):List Pc:=F.flatMap (rmP a)
def rmT (a:Nat):FTask→FTask
 | .beg n pl nt F=>goF ((rmN a n).map .b++rmF a F) pl nt
 | .dcd n pl nt F=>.dcd (rm1 a n) pl nt (rmF a F)
 | .top pl nt=>.top pl nt
section
variable {t:List Int} {at_:Nat} {a:Nat}
theorem rmN_self {n:Un} (h:n.ad=a):rmN a n=rmL a n.subs:=by
 cases n with
 | mk ad k r b i z l=>rw [rmN,if_pos (show ad=a from h)];rfl
theorem rmN_other {n:Un} (h:n.ad≠a):rmN a n=[rm1 a n]:=by
 cases n with
 | mk ad k r b i z l=>rw [rmN,if_neg (show ad≠a from h)];rfl
theorem rmF_append (F G:List Pc):rmF a (F++G)=rmF a F++rmF a G:=by unfold rmF;rw [List.flatMap_append]
theorem rmF_subs:∀ l:List Un,rmF a (l.map .b)=(rmL a l).map .b
 | []=>rfl
 | u :: l=>by
  show rmP a (.b u)++rmF a (l.map .b)=_
  rw [rmF_subs l,rmL,zzT];rfl
theorem rmT_go:∀ (F:List Pc) (pl:Nat) (nt:List Int),rmT a (goF F pl nt)=goF (rmF a F) pl nt:=by
 intro F
 induction F with
 | nil=>exact fun _ _=>rfl
 | cons x F ih =>
  intro pl nt
  cases x with
  | b n=>rfl
  | g i=>exact ih pl _
  | d n=>rfl
theorem rmT_row (l:List Un) (F:List Pc) (pl:Nat) (nt:List Int):rmT a (goF (l.map .b++F) pl nt)=goF ((rmL a l).map .b++rmF a F) pl nt:=by rw [rmT_go,rmF_append,rmF_subs]
theorem rmT_one {n x:Un} (h:rmN a n=[x]) (pl:Nat) (nt:List Int) (F:List Pc):rmT a (.beg n pl nt F)=.beg x pl nt (rmF a F):=by
 show goF ((rmN a n).map .b++rmF a F) pl nt=_
 rw [h];rfl
theorem choose_rm {n:Un} (h:∀ s∈n.subs,∃ x,rmN a s=[x]) (pl:Nat) (nt:List Int) (A F:List Pc):(chooseF n pl nt A F).map (rmT a)=chooseF (rm1 a n) pl nt (rmF a A) (rmF a F):=by
 unfold chooseF
 show _=match rmL a n.subs with | []=>[] | s :: _=>_
 cases hs:n.subs with
 | nil=>rfl
 | cons s l =>
  obtain ⟨x,hx⟩:=h s (by rw [hs];exact zzH)
  rw [rmL,hx]
  show _=if n.lz=true then _ else _
  simp only []
  cases n.lz
  ·simp only [Bool.false_eq_true,if_false,zzS,List.map_nil,rmT_go,rmT_one hx]
  ·simp only [if_true,zzS,List.map_nil,rmT_go,rmT_one hx]
theorem first_rm {n:Un} (h:n.kind≠4→∀ s∈n.subs,∃ x,rmN a s=[x]) (pl:Nat) (nt:List Int) (F:List Pc):(firstF t n pl nt F).map (rmT a)=firstF t (rm1 a n) pl nt (rmF a F):=by
 unfold firstF
 show _=if n.kind=1 then _ else if n.kind=2 then (if pl < t.length∧memB n.rng (t.getD pl 0)=true then _ else _) else if n.kind=3 then (if asB t pl n.ast then _ else _) else if n.kind=4 then [goF ((rmL a n.subs).map .b++rmF a F) pl nt] else if n.kind=5 then (rmL a n.subs).map _ else if n.kind=7 then (match rmL a n.subs with | []=>[] | s :: _=>_) else if n.kind=-1 then _ else if n.kind=-2 then _ else if n.kind=-3 then (match rmL a n.subs with | []=>[] | s :: _=>_) else []
 by_cases k1:n.kind=1
 ·rw [if_pos k1,if_pos k1,zzS,List.map_nil,rmT_go]
 rw [if_neg k1,if_neg k1]
 by_cases k2:n.kind=2
 ·rw [if_pos k2,if_pos k2]
  split
  ·rw [zzS,List.map_nil,rmT_go]
  ·rfl
 rw [if_neg k2,if_neg k2]
 by_cases k3:n.kind=3
 ·rw [if_pos k3,if_pos k3]
  split
  ·rw [zzS,List.map_nil,rmT_go]
  ·rfl
 rw [if_neg k3,if_neg k3]
 by_cases k4:n.kind=4
 ·rw [if_pos k4,if_pos k4,zzS,List.map_nil,rmT_row]
 rw [if_neg k4,if_neg k4]
 have h:=h k4
 by_cases k5:n.kind=5
 ·rw [if_pos k5,if_pos k5,List.map_map]
  generalize n.subs=l at h
  induction l with
  | nil=>rfl
  | cons s l ih =>
   obtain ⟨x,hx⟩:=h s zzH
   rw [rmL,hx,zzS,List.singleton_append,zzS,ih fun y hy=>h y (zzI _ hy)]
   congr 1
   exact rmT_one hx pl nt F
 rw [if_neg k5,if_neg k5]
 have hone:∀ s l,n.subs=s :: l→∃ x,rmN a s=[x]∧rmL a n.subs=x :: rmL a l:=fun s l hs=>by
  obtain ⟨x,hx⟩:=h s (by rw [hs];exact zzH)
  exact ⟨x,hx,by rw [hs,rmL,hx];rfl⟩
 by_cases k7:n.kind=7
 ·rw [if_pos k7,if_pos k7]
  cases hs:n.subs with
  | nil=>rfl
  | cons s l =>
   obtain ⟨x,hx,hl⟩:=hone s l hs
   rw [hs] at hl
   rw [hl]
   simp only [zzS,List.map_nil,rmT_one hx]
   rfl
 rw [if_neg k7,if_neg k7]
 by_cases m1:n.kind=-1
 ·rw [if_pos m1,if_pos m1];exact choose_rm h pl nt F F
 rw [if_neg m1,if_neg m1]
 by_cases m2:n.kind=-2
 ·rw [if_pos m2,if_pos m2];rfl
 rw [if_neg m2,if_neg m2]
 by_cases m3:n.kind=-3
 ·rw [if_pos m3,if_pos m3]
  cases hs:n.subs with
  | nil=>rfl
  | cons s l =>
   obtain ⟨x,hx,hl⟩:=hone s l hs
   rw [hs] at hl
   rw [hl]
   simp only [zzS,List.map_nil,rmT_one hx]
   rfl
 rw [if_neg m3,if_neg m3];rfl
def RmR (a:Nat) (s s':St):Prop:=(∀ ad pl b,ad≠a→(s.met (ad,pl,b)=0 ↔ s'.met (ad,pl,b)=0))∧s.out=s'.out
def RmI (a:Nat) (F0:List Pc) (p:Option Nat) (s s':St):Prop:=∀ pl,s.met (a,pl,false)≠0→p=some pl∨∀ nt,StartedT s' (goF F0 pl nt)
def RmK (a:Nat) (F0:List Pc) (p:Option Nat) (k:FTask):Prop:=∀ pl,p=some pl→(∃ nt,rmT a k=goF F0 pl nt)∧∀ n q nt F,k=.beg n q nt F→n.ad≠a
theorem rmR_mark {s s':St} (h:RmR a s s') (m:Mark):RmR a (s.mark m) (s'.mark m):=by
 refine ⟨fun ad pl b ha=>?_,h.2⟩
 by_cases e:(ad,pl,b)=m
 ·rw [e];exact ⟨fun h=>absurd h (met_self s m),fun h=>absurd h (met_self s' m)⟩
 ·rw [met_other e,met_other e];exact h.1 ad pl b ha
theorem rmR_left {s s':St} (h:RmR a s s') (pl:Nat) (b:Bool):RmR a (s.mark (a,pl,b)) s':=by
 refine ⟨fun ad q b' ha=>?_,h.2⟩
 rw [met_other (by simp only [ne_eq,Prod.mk.injEq];exact fun e=>ha e.1)]
 exact h.1 ad q b' ha
theorem rmI_step {F0:List Pc} {p:Option Nat} {s s1 s':St} {k':FTask} (hi:RmI a F0 p s s') (hk:∀ pl,p=some pl→∃ nt,k'=goF F0 pl nt) (hm:∀ pl,s1.met (a,pl,false)≠0→s.met (a,pl,false)≠0):RmI a F0 none s1 (workF t at_ s' k').1:=by
 intro pl h1
 refine .inr fun nt=>?_
 rcases hi pl (hm pl h1) with h2 | h2
 ·obtain ⟨nt0,h3⟩:=hk pl h2
  have:=started_work (t:=t) (at_:=at_) s' k'
  rw [h3] at this ⊢
  exact started_nt F0 nt0 nt this
 ·exact started_grows k' (h2 nt)
variable {P:Un→Kt→Prop} {c:Un} {Kc:Kt} {F0:List Pc}
theorem rm_st {s:St} {K:Kt} {pl:Nat} {nt:List Int} (hk:KSt P K):∀ x∈(work t at_ s (.go K pl nt)).2,TSt P x:=by
 intro x hx
 cases K with
 | top=>cases hx
 | row l K =>
  have e:x=rowT l pl nt K:=by simpa [work] using hx
  rw [e]
  cases l with
  | nil=>exact hk.2
  | cons y l=>exact hk.1.1
 | grp i K =>
  have e:x=.go K pl (nt.set (2*i+1).toNat pl):=by simpa [work] using hx
  rw [e];exact hk
 | dec n K =>
  have e:x=.dcd n pl nt K:=by simpa [work] using hx
  rw [e];exact hk.1
mutual
theorem rm_one (hP:Place t P) (hc:P c Kc) (hF:F0=(rmL c.ad c.subs).map .b++rmF c.ad (pcs Kc)) (hck:c.kind=4∨c.kind=1∧c.subs=[]) (hsg:∀ p K,P p K→p.ad≠c.ad→p.kind≠4→∀ s∈p.subs,∃ x,rmN c.ad s=[x]) (hnc:∀ pl nt n q nt' F,goF (c.subs.map .b++pcs Kc) pl nt=.beg n q nt' F→n.ad≠c.ad) :
  ∀ {s s1:St} {k:Task},One t at_ s k s1→TSt P k→∀ {p:Option Nat} {s':St},RmR c.ad s s'→RmI c.ad F0 p s s'→RmK c.ad F0 p (frT k)→∃ s1',OneF t at_ s' (rmT c.ad (frT k)) s1'∧RmR c.ad s1 s1'∧RmI c.ad F0 none s1 s1'
 | s,s1,.beg n pl nt K,.mk h,hk,p,s',hr,hi,hp=>by
  have IH:=fun (hl:∀ x∈(work t at_ s (.beg n pl nt K)).2,TSt P x) {p:Option Nat} {s':St}=>rm_many hP hc hF hck hsg hnc h hl (p:=p) (s':=s')
  have hPn:P n K:=hk
  by_cases e:n.ad=c.ad
  ·obtain ⟨rfl,rfl⟩:=hP.one n K c Kc hPn hc e
   have hpn:p=none:=by
    cases p with
    | none=>rfl
    | some q=>exact absurd rfl ((hp q rfl).2 n pl nt (pcs K) rfl)
   subst hpn
   have hk':rmT n.ad (frT (.beg n pl nt K))=goF F0 pl nt:=by
    show goF ((rmN n.ad n).map .b++rmF n.ad (pcs K)) pl nt=_
    rw [rmN_self rfl,hF]
   have hfi:firstF t n pl nt (pcs K)=[goF (n.subs.map .b++pcs K) pl nt]:=by
    unfold firstF
    rcases hck with h4 | ⟨h1,h2⟩
    ·rw [if_neg (by rw [h4];decide),if_neg (by rw [h4];decide),if_neg (by rw [h4];decide),if_pos h4]
    ·rw [if_pos h1,h2];rfl
   by_cases h0:s.met (n.ad,pl,false)=0
   ·have hw:(work t at_ s (.beg n pl nt K)).2=first t n pl nt K:=if_pos h0
    have hfr:((work t at_ s (.beg n pl nt K)).2.map frT)=[goF (n.subs.map .b++pcs K) pl nt]:=by rw [hw,first_fr,hfi]
    obtain ⟨k2,hk2⟩:∃ k2,(work t at_ s (.beg n pl nt K)).2=[k2]:=by
     cases hq:(work t at_ s (.beg n pl nt K)).2 with
     | nil=>rw [hq] at hfr;cases hfr
     | cons x l =>
      rw [hq] at hfr
      cases l with
      | nil=>exact ⟨x,rfl⟩
      | cons y l=>exact absurd (congrArg List.length hfr) (by simp)
    have hk2f:frT k2=goF (n.subs.map .b++pcs K) pl nt:=by rw [hk2] at hfr;simpa using hfr
    have hk2r:rmT n.ad (frT k2)=goF F0 pl nt:=by rw [hk2f,rmT_row,hF]
    obtain ⟨s1',g1,g2,g3⟩:=IH (by rw [hw];exact hP.first n K hPn pl nt) (p:=some pl) (s':=s') (rmR_left hr pl false) (fun q hq=>by
     by_cases eq:q=pl
     ·exact .inl (by rw [eq])
     ·refine .inr ((hi q ?_).resolve_left (by simp))
      have hq2:(s.mark (n.ad,pl,false)).met (n.ad,q,false)≠0:=hq
      rwa [met_other (by simp only [ne_eq,Prod.mk.injEq,true_and,and_true];exact eq)] at hq2) (fun q hq=>by
     cases hq
     exact ⟨k2,[],hk2,⟨nt,hk2r⟩,fun x y z F ex=>hnc pl nt x y z F (by rw [←hk2f];exact ex)⟩)
    rw [hk2,zzS,List.map_nil,hk2r] at g1
    exact ⟨s1',by rw [hk'];exact manyF_one g1,g2,g3⟩
   ·have hs1:s1=s.mark (n.ad,pl,false):=by
     have h2:=h
     simp only [work] at h2
     rw [if_neg h0] at h2
     cases h2
     rfl
    subst hs1
    obtain ⟨s1',g1,g2,g3,g4⟩:=skipF (t:=t) (at_:=at_) (((hi pl h0).resolve_left (by simp)) nt)
    refine ⟨s1',by rw [hk'];exact g1,⟨fun ad q b ha=>((rmR_left hr pl false).1 ad q b ha).trans (g2 _),(rmR_left hr pl false).2.trans g3⟩,fun q hq=>.inr fun nt2=>g4 _ (((hi q ?_).resolve_left (by simp)) nt2)⟩
    by_cases eq:q=pl
    ·rw [eq];exact h0
    ·rwa [met_other (by simp only [ne_eq,Prod.mk.injEq,true_and,and_true];exact eq)] at hq
  ·have hk':rmT c.ad (frT (.beg n pl nt K))=.beg (rm1 c.ad n) pl nt (rmF c.ad (pcs K)):=rmT_one (rmN_other e) pl nt (pcs K)
   have hpk:=fun q hq=>(hp q hq).1
   rw [hk'] at hpk ⊢
   have hi2:=rmI_step (t:=t) (at_:=at_) (s1:=s.mark (n.ad,pl,false)) hi hpk (fun q hq=>by
    rwa [met_other (by simp only [ne_eq,Prod.mk.injEq];exact fun g=>e g.1.symm)] at hq)
   have hr2:=rmR_mark hr (n.ad,pl,false)
   have hz:s.met (n.ad,pl,false)=0 ↔ s'.met (n.ad,pl,false)=0:=hr.1 n.ad pl false e
   obtain ⟨s1',g1,g2,g3⟩:=IH (fun x hx=>by
    simp only [work] at hx
    split at hx
    ·exact hP.first n K hPn pl nt x hx
    ·cases hx) (p:=none) (s':=s'.mark (n.ad,pl,false)) hr2 hi2 (fun q hq=>by cases hq)
   refine ⟨s1',.mk ?_,g2,g3⟩
   have hw:(workF t at_ s' (.beg (rm1 c.ad n) pl nt (rmF c.ad (pcs K)))).2=((work t at_ s (.beg n pl nt K)).2).map fun x=>rmT c.ad (frT x):=by
    show (if s'.met (n.ad,pl,false)=0 then firstF t (rm1 c.ad n) pl nt (rmF c.ad (pcs K)) else [])=(if s.met (n.ad,pl,false)=0 then first t n pl nt K else []).map _
    by_cases h0:s.met (n.ad,pl,false)=0
    ·rw [if_pos h0,if_pos (hz.1 h0),←first_rm (hsg n K hPn e),←first_fr,List.map_map];rfl
    ·rw [if_neg h0,if_neg fun g=>h0 (hz.2 g)];rfl
   rw [hw];exact g1
 | s,s1,.dcd n pl nt K,.mk h,hk,p,s',hr,hi,hp=>by
  have IH:=fun (hl:∀ x∈(work t at_ s (.dcd n pl nt K)).2,TSt P x) {p:Option Nat} {s':St}=>rm_many hP hc hF hck hsg hnc h hl (p:=p) (s':=s')
  have hPn:P n K:=hk.1
  have hlo:n.Loops:=hk.2
  have e:n.ad≠c.ad:=fun e=>by
   obtain ⟨rfl,rfl⟩:=hP.one n K c Kc hPn hc e
   rcases hck with h4 | ⟨h4,-⟩ <;> rcases hlo with h2 | h2 <;> rw [h4] at h2 <;> exact absurd h2 (by decide)
  have k4:n.kind≠4:=by rcases hlo with h2 | h2 <;> rw [h2] <;> decide
  have hpk:∀ q,p=some q→∃ nt2,FTask.dcd (rm1 c.ad n) pl nt (rmF c.ad (pcs K))=goF F0 q nt2:=fun q hq=>(hp q hq).1
  have hi2:=rmI_step (t:=t) (at_:=at_) (s1:=s.mark (n.ad,pl,true)) hi hpk (fun q hq=>by
   rwa [met_other (by simp)] at hq)
  have hr2:=rmR_mark hr (n.ad,pl,true)
  have hz:s.met (n.ad,pl,true)=0 ↔ s'.met (n.ad,pl,true)=0:=hr.1 n.ad pl true e
  obtain ⟨s1',g1,g2,g3⟩:=IH (fun x hx=>by
   simp only [work] at hx
   split at hx
   ·exact hP.decide n K hPn hlo pl nt x hx
   ·cases hx) (p:=none) (s':=s'.mark (n.ad,pl,true)) hr2 hi2 (fun q hq=>by cases hq)
  have hk':rmT c.ad (frT (.dcd n pl nt K))=.dcd (rm1 c.ad n) pl nt (rmF c.ad (pcs K)):=rfl
  rw [hk']
  refine ⟨s1',.mk ?_,g2,g3⟩
  have hw:(workF t at_ s' (.dcd (rm1 c.ad n) pl nt (rmF c.ad (pcs K)))).2=((work t at_ s (.dcd n pl nt K)).2).map fun x=>rmT c.ad (frT x):=by
   show (if s'.met (n.ad,pl,true)=0 then chooseF (rm1 c.ad n) pl nt (.d (rm1 c.ad n) :: rmF c.ad (pcs K)) (rmF c.ad (pcs K)) else [])=(if s.met (n.ad,pl,true)=0 then choose n pl nt (.dec n K) K else []).map _
   by_cases h0:s.met (n.ad,pl,true)=0
   ·rw [if_pos h0,if_pos (hz.1 h0),show Pc.d (rm1 c.ad n) :: rmF c.ad (pcs K)=rmF c.ad (pcs (.dec n K)) from rfl,←choose_rm (hsg n K hPn e k4),←choose_fr,List.map_map];rfl
   ·rw [if_neg h0,if_neg fun g=>h0 (hz.2 g)];rfl
  rw [hw];exact g1
 | s,s1,.go .top pl nt,.mk h,hk,p,s',hr,hi,hp=>by
  have h2:=h
  simp only [work] at h2
  cases h2
  have hi2:=rmI_step (t:=t) (at_:=at_) (s1:=ended at_ s pl nt) (k':=.top pl nt) hi (fun q hq=>(hp q hq).1) (fun q hq=>by rwa [ended_met] at hq)
  refine ⟨ended at_ s' pl nt,.mk .nil,⟨fun ad q b ha=>?_,?_⟩,hi2⟩
  ·rw [ended_met,ended_met];exact hr.1 ad q b ha
  ·unfold ended
   rw [hr.2]
   split
   ·exact hr.2
   ·rfl
 | s,s1,.go (.row l K) pl nt,.mk h,hk,p,s',hr,hi,hp=>by
  have e:frT (rowT l pl nt K)=frT (.go (.row l K) pl nt):=frT_rowT l pl nt K
  obtain ⟨s1',g1,g2,g3⟩:=rm_many hP hc hF hck hsg hnc h (fun x hx=>rm_st hk x hx) (p:=p) (s':=s') hr hi (fun q hq=>⟨_,[],rfl,by rw [e];exact hp q hq⟩)
  simp only [work,zzS,List.map_nil] at g1
  rw [e] at g1
  exact ⟨s1',manyF_one g1,g2,g3⟩
 | s,s1,.go (.grp i K) pl nt,.mk h,hk,p,s',hr,hi,hp=>by
  obtain ⟨s1',g1,g2,g3⟩:=rm_many hP hc hF hck hsg hnc h (fun x hx=>rm_st hk x hx) (p:=p) (s':=s') hr hi (fun q hq=>⟨_,[],rfl,hp q hq⟩)
  exact ⟨s1',manyF_one g1,g2,g3⟩
 | s,s1,.go (.dec n K) pl nt,.mk h,hk,p,s',hr,hi,hp=>by
  obtain ⟨s1',g1,g2,g3⟩:=rm_many hP hc hF hck hsg hnc h (fun x hx=>rm_st hk x hx) (p:=p) (s':=s') hr hi (fun q hq=>⟨_,[],rfl,hp q hq⟩)
  exact ⟨s1',manyF_one g1,g2,g3⟩
theorem rm_many (hP:Place t P) (hc:P c Kc) (hF:F0=(rmL c.ad c.subs).map .b++rmF c.ad (pcs Kc)) (hck:c.kind=4∨c.kind=1∧c.subs=[]) (hsg:∀ p K,P p K→p.ad≠c.ad→p.kind≠4→∀ s∈p.subs,∃ x,rmN c.ad s=[x]) (hnc:∀ pl nt n q nt' F,goF (c.subs.map .b++pcs Kc) pl nt=.beg n q nt' F→n.ad≠c.ad) :
  ∀ {s s1:St} {l:List Task},Many t at_ s l s1→(∀ k∈l,TSt P k)→∀ {p:Option Nat} {s':St},RmR c.ad s s'→RmI c.ad F0 p s s'→(∀ pl,p=some pl→∃ k q,l=k :: q∧(∃ nt,rmT c.ad (frT k)=goF F0 pl nt)∧∀ n q nt F,frT k=.beg n q nt F→n.ad≠c.ad)→∃ s1',ManyF t at_ s' (l.map fun x=>rmT c.ad (frT x)) s1'∧RmR c.ad s1 s1'∧RmI c.ad F0 none s1 s1'
 | s,_,[],.nil,_,p,s',hr,hi,hp=>by
  cases p with
  | none=>exact ⟨s',.nil,hr,hi⟩
  | some q=>obtain ⟨k,l,e,-⟩:=hp q rfl;cases e
 | s,s1,k :: l,.cons h1 h2,hk,p,s',hr,hi,hp=>by
  obtain ⟨sa,g1,g2,g3⟩:=rm_one hP hc hF hck hsg hnc h1 (hk k zzH) hr hi (fun q hq=>by
   obtain ⟨k',l',e,h3,h4⟩:=hp q hq
   injection e with e1 e2
   subst e1
   exact ⟨h3,h4⟩)
  obtain ⟨sb,g4,g5,g6⟩:=rm_many hP hc hF hck hsg hnc h2 (fun x hx=>hk x (zzI _ hx)) g2 g3 (fun q hq=>by cases hq)
  exact ⟨sb,.cons g1 g4,g5,g6⟩
end
end
end Mean
end Go.Proofs.Ytkhkllpdhnmhkaa
namespace Go.Proofs.Ytkhkllpdhnmhkaa
open Mach
namespace Mean
def clean (a:Nat):Kt→Prop
 | .top=>True
 | .row l K=>(∀ s∈l,s.ad≠a)∧clean a K
 | .grp _ K=>clean a K
 | .dec _ K=>clean a K
def TC (a:Nat):Task→Prop
 | .beg _ _ _ K=>clean a K
 | .dcd _ _ _ K=>clean a K
 | .go K _ _=>clean a K
def isC (a:Nat):Task→Prop
 | .beg n _ _ _=>n.ad=a
 | _=>False
def isCp (a pl:Nat):Task→Prop
 | .beg n q _ _=>n.ad=a∧q=pl
 | _=>False
def imgA (a:Nat) (c:Un):Task→List FTask
 | .beg n pl nt K=>(rmN a n).map fun x=>.beg x pl nt (rmF a (pcs K))
 | k=>[rmT a (frT k)]
section
variable {t:List Int} {at_:Nat} {a:Nat} {P:Un→Kt→Prop}
theorem clean_rowT {l:List Un} {pl:Nat} {nt:List Int} {K:Kt} (hl:∀ s∈l,s.ad≠a) (hK:clean a K):TC a (rowT l pl nt K)∧¬isC a (rowT l pl nt K):=by
 cases l with
 | nil=>exact ⟨hK,fun h=>h⟩
 | cons s l=>exact ⟨⟨fun x hx=>hl x (zzI _ hx),hK⟩,fun h=>hl s zzH h⟩
theorem clean_choose {n:Un} (hn:∀ s∈n.subs,s.ad≠a) {pl:Nat} {nt:List Int} {A K:Kt} (hA:clean a A) (hK:clean a K):∀ x∈choose n pl nt A K,TC a x∧¬isC a x:=by
 unfold choose
 intro k hk
 cases hs:n.subs with
 | nil=>rw [hs] at hk;cases hk
 | cons s l =>
  rw [hs] at hk
  have h1:=hn s (by rw [hs];exact zzH)
  simp only [] at hk
  split at hk <;> (simp only [zzN,List.not_mem_nil,or_false] at hk;rcases hk with rfl | rfl)
  ·exact ⟨hK,fun h=>h⟩
  ·exact ⟨hA,h1⟩
  ·exact ⟨hA,h1⟩
  ·exact ⟨hK,fun h=>h⟩
theorem clean_first {n:Un} (hn:∀ s∈n.subs,s.ad≠a) {pl:Nat} {nt:List Int} {K:Kt} (hK:clean a K):∀ x∈first t n pl nt K,TC a x∧¬isC a x:=by
 unfold first
 intro k hk
 split at hk
 ·simp only [zzE] at hk;subst hk;exact ⟨hK,fun h=>h⟩
 split at hk
 ·split at hk
  ·simp only [zzE] at hk;subst hk;exact ⟨hK,fun h=>h⟩
  ·cases hk
 split at hk
 ·split at hk
  ·simp only [zzE] at hk;subst hk;exact ⟨hK,fun h=>h⟩
  ·cases hk
 split at hk
 ·simp only [zzE] at hk;subst hk;exact clean_rowT hn hK
 split at hk
 ·obtain ⟨s,hs,rfl⟩:=List.mem_map.1 hk
  exact ⟨hK,hn s hs⟩
 split at hk
 ·split at hk
  ·cases hk
  ·rename_i s l hs
   simp only [zzE] at hk;subst hk
   exact ⟨hK,hn s (by rw [hs];exact zzH)⟩
 split at hk
 ·exact clean_choose hn hK hK k hk
 split at hk
 ·simp only [zzE] at hk;subst hk;exact ⟨hK,fun h=>h⟩
 split at hk
 ·split at hk
  ·cases hk
  ·rename_i s l hs
   simp only [zzE] at hk;subst hk
   exact ⟨hK,hn s (by rw [hs];exact zzH)⟩
 ·cases hk
theorem clean_go {s:St} {K:Kt} {pl:Nat} {nt:List Int} (hK:clean a K):∀ x∈(work t at_ s (.go K pl nt)).2,TC a x∧¬isC a x:=by
 intro x hx
 cases K with
 | top=>cases hx
 | row l K =>
  have e:x=rowT l pl nt K:=by simpa [work] using hx
  rw [e];exact clean_rowT hK.1 hK.2
 | grp i K =>
  have e:x=.go K pl (nt.set (2*i+1).toNat pl):=by simpa [work] using hx
  rw [e];exact ⟨hK,fun h=>h⟩
 | dec n K =>
  have e:x=.dcd n pl nt K:=by simpa [work] using hx
  rw [e];exact ⟨hK,fun h=>h⟩
theorem imgA_one {c:Un} {k:Task} (h:¬isC a k):imgA a c k=[rmT a (frT k)]:=by
 cases k with
 | beg n pl nt K =>
  have h':n.ad≠a:=h
  show (rmN a n).map _=[rmT a (.beg n pl nt (pcs K))]
  rw [rmT_one (rmN_other h'),rmN_other h'];rfl
 | dcd n pl nt K=>rfl
 | go K pl nt=>rfl
theorem imgA_map {c:Un}:∀ {l:List Task},(∀ x∈l,¬isC a x)→l.flatMap (imgA a c)=l.map fun x=>rmT a (frT x)
 | [],_=>rfl
 | x :: l,h=>by
  rw [List.flatMap_cons,imgA_one (h x zzH),imgA_map fun y hy=>h y (zzI _ hy)];rfl
theorem imgA_alt {c:Un} (pl:Nat) (nt:List Int) (K:Kt):∀ l:List Un,(l.map fun s=>Task.beg s pl nt K).flatMap (imgA a c)=(rmL a l).map fun x=>.beg x pl nt (rmF a (pcs K))
 | []=>rfl
 | s :: l=>by
  rw [zzS,List.flatMap_cons,imgA_alt pl nt K l,rmL,zzT];rfl
theorem manyF_append:∀ {s s1 s2:St} {l m:List FTask},ManyF t at_ s l s1→ManyF t at_ s1 m s2→ManyF t at_ s (l++m) s2
 | _,_,_,[],_,.nil,g=>g
 | _,_,_,_ :: _,_,.cons h1 h2,g=>.cons h1 (manyF_append h2 g)
def EI (a b:Nat) (s:St):Prop:=∀ pl,s.met (a,pl,false)≠0→s.met (b,pl,false)≠0
theorem EI.mark {b:Nat} {s:St} (h:EI a b s) {m:Mark} (hm:∀ pl,m≠(a,pl,false)):EI a b (s.mark m):=fun pl hp=>by
 rw [met_other (fun e=>hm pl e.symm)] at hp
 exact met_mark (h pl hp)
theorem grows_ne {s s':St} (h:Grows s s') {m:Mark} (hm:s.met m≠0):s'.met m≠0:=by
 have:=h.met m (by omega)
 omega
variable {c p:Un} {Kp:Kt}
mutual
theorem ea_one (hP:Place t P) (hc:P c Kp) (hp:P p Kp) (hc5:c.kind=5) (hp5:p.kind=5) (hpc:p.ad≠c.ad) (hnd:(p.subs.map Un.ad).Nodup) (hcc:∀ x∈c.subs,x.ad≠c.ad) (hpar:∀ n K,P n K→n.ad≠p.ad→∀ s∈n.subs,s.ad≠c.ad) :
  ∀ {s s1:St} {k:Task},One t at_ s k s1→TSt P k→TC c.ad k→∀ {s':St},RmR c.ad s s'→EI c.ad p.ad s→(∀ pl,isCp c.ad pl k→s.met (c.ad,pl,false)=0∧s.met (p.ad,pl,false)≠0)→∃ s1',ManyF t at_ s' (imgA c.ad c k) s1'∧RmR c.ad s1 s1'∧EI c.ad p.ad s1∧∀ pl,s.met (p.ad,pl,false)≠0→s.met (c.ad,pl,false)=0→¬isCp c.ad pl k→s1.met (c.ad,pl,false)=0
 | s,s1,.beg n pl nt K,.mk h,hk,hT,s',hr,hi,hC=>by
  have IH:=fun {s':St}=>ea_many hP hc hp hc5 hp5 hpc hnd hcc hpar h (s':=s')
  have hPn:P n K:=hk
  have hK:clean c.ad K:=hT
  by_cases e:n.ad=c.ad
  ·obtain ⟨rfl,rfl⟩:=hP.one n K c Kp hPn hc e
   obtain ⟨h0,hpm⟩:=hC pl ⟨rfl,rfl⟩
   have hfi:first t n pl nt K=n.subs.map fun s=>.beg s pl nt K:=by
    unfold first
    rw [if_neg (by rw [hc5];decide),if_neg (by rw [hc5];decide),if_neg (by rw [hc5];decide),if_neg (by rw [hc5];decide),if_pos hc5]
   have hw:(work t at_ s (.beg n pl nt K)).2=first t n pl nt K:=if_pos h0
   have hcl:=clean_first (t:=t) (pl:=pl) (nt:=nt) hcc hK
   obtain ⟨s1',g1,g2,g3,g4⟩:=IH (s':=s') (by rw [hw];exact hP.first n K hPn pl nt) (by rw [hw];exact fun x hx=>(hcl x hx).1) (rmR_left hr pl false) (fun q hq=>by
    show (s.mark (n.ad,pl,false)).met (p.ad,q,false)≠0
    have hq2:(s.mark (n.ad,pl,false)).met (n.ad,q,false)≠0:=hq
    by_cases eq:q=pl
    ·rw [eq];exact met_mark hpm
    ·rw [met_other (by simp only [ne_eq,Prod.mk.injEq,true_and,and_true];exact eq)] at hq2
     exact met_mark (hi q hq2)) (by
    rw [hw]
    intro x hx q hq
    exact absurd (by cases x with | beg n q nt K=>exact hq.1 | dcd n q nt K=>exact hq | go K q nt=>exact hq:isC n.ad x) (hcl x hx).2) (by
    rw [hw]
    exact List.pairwise_of_forall_mem_list fun x hx y hy h1=>absurd h1 (hcl x hx).2)
   rw [hw,hfi,imgA_alt] at g1
   refine ⟨s1',?_,g2,g3,fun q hq1 hq2 hq3=>g4 q ?_ ?_ ?_⟩
   ·show ManyF t at_ s' ((rmN n.ad n).map _) s1'
    rw [rmN_self rfl];exact g1
   ·exact met_mark hq1
   ·show (s.mark (n.ad,pl,false)).met (n.ad,q,false)=0
    rw [met_other (by simp only [ne_eq,Prod.mk.injEq,true_and,and_true];exact fun eq=>hq3 ⟨rfl,eq.symm⟩)]
    exact hq2
   ·rw [hw]
    intro x hx hx2
    exact absurd (by cases x with | beg n q nt K=>exact hx2.1 | dcd n q nt K=>exact hx2 | go K q nt=>exact hx2:isC n.ad x) (hcl x hx).2
  ·have hi1:imgA c.ad c (.beg n pl nt K)=[.beg (rm1 c.ad n) pl nt (rmF c.ad (pcs K))]:=by
    show (rmN c.ad n).map _=_
    rw [rmN_other e];rfl
   have hr2:=rmR_mark hr (n.ad,pl,false)
   have hz:s.met (n.ad,pl,false)=0 ↔ s'.met (n.ad,pl,false)=0:=hr.1 n.ad pl false e
   have hmk:∀ q b,(s.mark (n.ad,pl,b)).met (c.ad,q,false)=s.met (c.ad,q,false):=fun q b=>met_other (by simp only [ne_eq,Prod.mk.injEq];exact fun g=>e g.1.symm)
   have hi2:EI c.ad p.ad (s.mark (n.ad,pl,false)):=hi.mark fun q g=>e (by simp only [Prod.mk.injEq] at g;exact g.1)
   by_cases h0:s.met (n.ad,pl,false)=0
   ·have hw:(work t at_ s (.beg n pl nt K)).2=first t n pl nt K:=if_pos h0
    have hst:∀ x∈(work t at_ s (.beg n pl nt K)).2,TSt P x:=by rw [hw];exact hP.first n K hPn pl nt
    by_cases ep:n.ad=p.ad
    ·obtain ⟨rfl,rfl⟩:=hP.one n K p Kp hPn hp ep
     have hfi:first t n pl nt K=n.subs.map fun s=>.beg s pl nt K:=by
      unfold first
      rw [if_neg (by rw [hp5];decide),if_neg (by rw [hp5];decide),if_neg (by rw [hp5];decide),if_neg (by rw [hp5];decide),if_pos hp5]
     have hw':=hw.trans hfi
     obtain ⟨s1',g1,g2,g3,g4⟩:=IH (s':=s'.mark (n.ad,pl,false)) hst (by
      rw [hw']
      intro x hx
      obtain ⟨y,hy,rfl⟩:=List.mem_map.1 hx
      exact hK) hr2 hi2 (by
      rw [hw']
      intro x hx q hq
      obtain ⟨y,hy,rfl⟩:=List.mem_map.1 hx
      obtain ⟨hq1,rfl⟩:=hq
      refine ⟨?_,met_self _ _⟩
      show (s.mark (n.ad,pl,false)).met (c.ad,pl,false)=0
      rw [hmk]
      exact Nat.eq_zero_of_not_pos fun g=>hi pl (by omega) h0) (by
      rw [hw',List.pairwise_map]
      exact (List.pairwise_map.1 hnd).imp fun {x y} hxy h1 h2=>hxy (h1.trans h2.symm))
     rw [hw',imgA_alt] at g1
     refine ⟨s1',?_,g2,g3,fun q hq1 hq2 hq3=>g4 q (met_mark hq1) ((hmk q false).trans hq2) ?_⟩
     ·rw [hi1]
      refine .cons (.mk ?_) .nil
      have hwF:(workF t at_ s' (.beg (rm1 c.ad n) pl nt (rmF c.ad (pcs K)))).2=(rmL c.ad n.subs).map fun x=>.beg x pl nt (rmF c.ad (pcs K)):=by
       refine (if_pos (hz.1 h0)).trans ?_
       unfold firstF
       rw [if_neg (by show n.kind≠1;rw [hp5];decide),if_neg (by show n.kind≠2;rw [hp5];decide),if_neg (by show n.kind≠3;rw [hp5];decide),if_neg (by show n.kind≠4;rw [hp5];decide),if_pos (show (rm1 c.ad n).kind=5 from hp5)]
       rfl
      rw [hwF];exact g1
     ·rw [hw']
      intro x hx hx2
      obtain ⟨y,hy,rfl⟩:=List.mem_map.1 hx
      exact hq1 (by rw [←hx2.2];exact h0)
    ·have hsub:=hpar n K hPn ep
     have hcl:=clean_first (t:=t) (pl:=pl) (nt:=nt) hsub hK
     have hno:∀ x∈(work t at_ s (.beg n pl nt K)).2,¬isC c.ad x:=by rw [hw];exact fun x hx=>(hcl x hx).2
     have hnp:∀ x∈(work t at_ s (.beg n pl nt K)).2,∀ q,¬isCp c.ad q x:=fun x hx q hq=>hno x hx (by cases x with | beg n q nt K=>exact hq.1 | dcd n q nt K=>exact hq | go K q nt=>exact hq)
     obtain ⟨s1',g1,g2,g3,g4⟩:=IH (s':=s'.mark (n.ad,pl,false)) hst (by rw [hw];exact fun x hx=>(hcl x hx).1) hr2 hi2 (fun x hx q hq=>absurd hq (hnp x hx q)) (List.pairwise_of_forall_mem_list fun x hx y hy h1=>absurd h1 (hno x hx))
     rw [imgA_map hno] at g1
     refine ⟨s1',?_,g2,g3,fun q hq1 hq2 hq3=>g4 q (met_mark hq1) ((hmk q false).trans hq2) fun x hx=>hnp x hx q⟩
     rw [hi1]
     refine .cons (.mk ?_) .nil
     have hwF:(workF t at_ s' (.beg (rm1 c.ad n) pl nt (rmF c.ad (pcs K)))).2=((work t at_ s (.beg n pl nt K)).2).map fun x=>rmT c.ad (frT x):=by
      rw [hw]
      refine (if_pos (hz.1 h0)).trans ?_
      rw [←first_rm (fun _ s hs=>⟨_,rmN_other (hsub s hs)⟩),←first_fr,List.map_map];rfl
     rw [hwF];exact g1
   ·have hs1:s1=s.mark (n.ad,pl,false):=by
     have h2:=h
     simp only [work] at h2
     rw [if_neg h0] at h2
     cases h2
     rfl
    subst hs1
    refine ⟨s'.mark (n.ad,pl,false),?_,hr2,hi2,fun q hq1 hq2 hq3=>(hmk q false).trans hq2⟩
    rw [hi1]
    refine .cons (.mk ?_) .nil
    rw [show (workF t at_ s' (.beg (rm1 c.ad n) pl nt (rmF c.ad (pcs K)))).2=[] from if_neg fun g=>h0 (hz.2 g)]
    exact .nil
 | s,s1,.dcd n pl nt K,.mk h,hk,hT,s',hr,hi,hC=>by
  have IH:=fun {s':St}=>ea_many hP hc hp hc5 hp5 hpc hnd hcc hpar h (s':=s')
  have hPn:P n K:=hk.1
  have hlo:n.Loops:=hk.2
  have hK:clean c.ad K:=hT
  have e:n.ad≠c.ad:=fun e=>by
   obtain ⟨rfl,rfl⟩:=hP.one n K c Kp hPn hc e
   rcases hlo with h2 | h2 <;> rw [hc5] at h2 <;> exact absurd h2 (by decide)
  have ep:n.ad≠p.ad:=fun e=>by
   obtain ⟨rfl,rfl⟩:=hP.one n K p Kp hPn hp e
   rcases hlo with h2 | h2 <;> rw [hp5] at h2 <;> exact absurd h2 (by decide)
  have hsub:=hpar n K hPn ep
  have hcl:=clean_choose (pl:=pl) (nt:=nt) (A:=.dec n K) hsub hK hK
  have hr2:=rmR_mark hr (n.ad,pl,true)
  have hz:s.met (n.ad,pl,true)=0 ↔ s'.met (n.ad,pl,true)=0:=hr.1 n.ad pl true e
  have hmk:∀ q,(s.mark (n.ad,pl,true)).met (c.ad,q,false)=s.met (c.ad,q,false):=fun q=>met_other (by simp)
  have hi2:EI c.ad p.ad (s.mark (n.ad,pl,true)):=hi.mark fun q g=>by simp at g
  have hsu:∀ x∈(work t at_ s (.dcd n pl nt K)).2,x∈choose n pl nt (.dec n K) K:=fun x hx=>by
   simp only [work] at hx
   split at hx
   ·exact hx
   ·cases hx
  have hno:∀ x∈(work t at_ s (.dcd n pl nt K)).2,¬isC c.ad x:=fun x hx=>(hcl x (hsu x hx)).2
  have hnp:∀ x∈(work t at_ s (.dcd n pl nt K)).2,∀ q,¬isCp c.ad q x:=fun x hx q hq=>hno x hx (by cases x with | beg n q nt K=>exact hq.1 | dcd n q nt K=>exact hq | go K q nt=>exact hq)
  obtain ⟨s1',g1,g2,g3,g4⟩:=IH (s':=s'.mark (n.ad,pl,true)) (fun x hx=>hP.decide n K hPn hlo pl nt x (hsu x hx)) (fun x hx=>(hcl x (hsu x hx)).1) hr2 hi2 (fun x hx q hq=>absurd hq (hnp x hx q)) (List.pairwise_of_forall_mem_list fun x hx y hy h1=>absurd h1 (hno x hx))
  rw [imgA_map hno] at g1
  refine ⟨s1',.cons (.mk ?_) .nil,g2,g3,fun q hq1 hq2 hq3=>g4 q (met_mark hq1) ((hmk q).trans hq2) fun x hx=>hnp x hx q⟩
  have hw:(workF t at_ s' (.dcd (rm1 c.ad n) pl nt (rmF c.ad (pcs K)))).2=((work t at_ s (.dcd n pl nt K)).2).map fun x=>rmT c.ad (frT x):=by
   show (if s'.met (n.ad,pl,true)=0 then chooseF (rm1 c.ad n) pl nt (.d (rm1 c.ad n) :: rmF c.ad (pcs K)) (rmF c.ad (pcs K)) else [])=(if s.met (n.ad,pl,true)=0 then choose n pl nt (.dec n K) K else []).map _
   by_cases h0:s.met (n.ad,pl,true)=0
   ·rw [if_pos h0,if_pos (hz.1 h0),show Pc.d (rm1 c.ad n) :: rmF c.ad (pcs K)=rmF c.ad (pcs (.dec n K)) from rfl,←choose_rm (fun s hs=>⟨_,rmN_other (hsub s hs)⟩),←choose_fr,List.map_map];rfl
   ·rw [if_neg h0,if_neg fun g=>h0 (hz.2 g)];rfl
  show ManyF t at_ (workF t at_ s' (.dcd (rm1 c.ad n) pl nt (rmF c.ad (pcs K)))).1 (workF t at_ s' (.dcd (rm1 c.ad n) pl nt (rmF c.ad (pcs K)))).2 s1'
  rw [hw];exact g1
 | s,s1,.go K pl nt,.mk h,hk,hT,s',hr,hi,hC=>by
  have IH:=fun {s':St}=>ea_many hP hc hp hc5 hp5 hpc hnd hcc hpar h (s':=s')
  have hK:clean c.ad K:=hT
  have hcl:=clean_go (t:=t) (at_:=at_) (s:=s) (pl:=pl) (nt:=nt) hK
  have hno:∀ x∈(work t at_ s (.go K pl nt)).2,¬isC c.ad x:=fun x hx=>(hcl x hx).2
  have hnp:∀ x∈(work t at_ s (.go K pl nt)).2,∀ q,¬isCp c.ad q x:=fun x hx q hq=>hno x hx (by cases x with | beg n q nt K=>exact hq.1 | dcd n q nt K=>exact hq | go K q nt=>exact hq)
  by_cases hK0:K=.top
  ·subst hK0
   have h2:=h
   simp only [work] at h2
   cases h2
   refine ⟨ended at_ s' pl nt,.cons (.mk .nil) .nil,⟨fun ad q b ha=>?_,?_⟩,fun q hq=>?_,fun q hq1 hq2 hq3=>?_⟩
   ·rw [ended_met,ended_met];exact hr.1 ad q b ha
   ·unfold ended
    rw [hr.2]
    split
    ·exact hr.2
    ·rfl
   ·rw [ended_met] at hq ⊢;exact hi q hq
   ·rw [ended_met];exact hq2
  ·obtain ⟨x,hx1,hx2,hx3⟩:∃ x,(work t at_ s (.go K pl nt)).2=[x]∧frT x=frT (.go K pl nt)∧(work t at_ s (.go K pl nt)).1=s:=by
    cases K with
    | top=>exact absurd rfl hK0
    | row l K=>exact ⟨_,rfl,frT_rowT l pl nt K,rfl⟩
    | grp i K=>exact ⟨_,rfl,rfl,rfl⟩
    | dec n K=>exact ⟨_,rfl,rfl,rfl⟩
   obtain ⟨s1',g1,g2,g3,g4⟩:=IH (s':=s') (fun x hx=>rm_st hk x hx) (fun x hx=>(hcl x hx).1) (by rw [hx3];exact hr) (by rw [hx3];exact hi) (fun x hx q hq=>absurd hq (hnp x hx q)) (List.pairwise_of_forall_mem_list fun x hx y hy h1=>absurd h1 (hno x hx))
   rw [imgA_map hno,hx1,zzS,List.map_nil,hx2] at g1
   refine ⟨s1',g1,g2,g3,fun q hq1 hq2 hq3=>g4 q (by rw [hx3];exact hq1) (by rw [hx3];exact hq2) fun x hx=>hnp x hx q⟩
theorem ea_many (hP:Place t P) (hc:P c Kp) (hp:P p Kp) (hc5:c.kind=5) (hp5:p.kind=5) (hpc:p.ad≠c.ad) (hnd:(p.subs.map Un.ad).Nodup) (hcc:∀ x∈c.subs,x.ad≠c.ad) (hpar:∀ n K,P n K→n.ad≠p.ad→∀ s∈n.subs,s.ad≠c.ad) :
  ∀ {s s1:St} {l:List Task},Many t at_ s l s1→(∀ k∈l,TSt P k)→(∀ k∈l,TC c.ad k)→∀ {s':St},RmR c.ad s s'→EI c.ad p.ad s→(∀ k∈l,∀ pl,isCp c.ad pl k→s.met (c.ad,pl,false)=0∧s.met (p.ad,pl,false)≠0)→l.Pairwise (fun x y=>isC c.ad x→¬isC c.ad y)→∃ s1',ManyF t at_ s' (l.flatMap (imgA c.ad c)) s1'∧RmR c.ad s1 s1'∧EI c.ad p.ad s1∧∀ pl,s.met (p.ad,pl,false)≠0→s.met (c.ad,pl,false)=0→(∀ k∈l,¬isCp c.ad pl k)→s1.met (c.ad,pl,false)=0
 | s,_,[],.nil,_,_,s',hr,hi,_,_=>⟨s',.nil,hr,hi,fun _ _ h _=>h⟩
 | s,s1,k :: l,.cons h1 h2,hk,hT,s',hr,hi,hC,hpw=>by
  obtain ⟨hp1,hp2⟩:=List.pairwise_cons.1 hpw
  have hgr:=one_grows h1
  obtain ⟨sa,g1,g2,g3,g4⟩:=ea_one hP hc hp hc5 hp5 hpc hnd hcc hpar h1 (hk k zzH) (hT k zzH) hr hi (hC k zzH)
  obtain ⟨sb,g5,g6,g7,g8⟩:=ea_many hP hc hp hc5 hp5 hpc hnd hcc hpar h2 (fun x hx=>hk x (zzI _ hx)) (fun x hx=>hT x (zzI _ hx)) g2 g3 (fun x hx q hq=>by
   obtain ⟨e1,e2⟩:=hC x (zzI _ hx) q hq
   have hxc:isC c.ad x:=by cases x with | beg n q nt K=>exact hq.1 | dcd n q nt K=>exact hq | go K q nt=>exact hq
   refine ⟨g4 q e2 e1 fun hkc=>hp1 x hx ?_ hxc,grows_ne hgr e2⟩
   cases k with | beg n q nt K=>exact hkc.1 | dcd n q nt K=>exact hkc | go K q nt=>exact hkc) hp2
  refine ⟨sb,by rw [List.flatMap_cons];exact manyF_append g1 g5,g6,g7,fun q hq1 hq2 hq3=>g8 q (grows_ne hgr hq1) (g4 q hq1 hq2 (hq3 k zzH)) fun x hx=>hq3 x (zzI _ hx)⟩
end
end
end Mean
end Go.Proofs.Ytkhkllpdhnmhkaa
namespace Go.Proofs.Ytkhkllpdhnmhkaa
open Go.RowKit
inductive Ta where
 | mk (kind:Int) (rng:List (Int × Int)) (ra:Option Addr) (rc:Nat) (ast:Int) (subs:List Ta) (sa:Option Addr) (sc:Nat) (mn mx:Int) (lz:Bool) (ix:Int) (nm:ByteArray)
def Ta.subs:Ta→List Ta | .mk _ _ _ _ _ l _ _ _ _ _ _ _=>l
def Ta.vals:Ta→List Value | .mk k r ra rc a l sa sc n m z i s=>[.int .i64 k,.slice ra r.length rc,.int .i64 a,.slice sa l.length sc,.int .i64 n,.int .i64 m,.bool z,.int .i64 i,.string s]
def Ta.val (t:Ta):Value:=.agg t.vals.toArray
def rowT (l:List Ta):List Value:=l.flatMap Ta.vals
theorem Ta.vals_length (t:Ta):t.vals.length=9:=by cases t;rfl
theorem rowT_length:∀ l:List Ta,(rowT l).length=l.length*9
 | []=>rfl
 | t :: l=>by
  have ih:=rowT_length l
  unfold rowT at ih ⊢
  rw [List.flatMap_cons,zzG,Ta.vals_length,ih,zzO];omega
theorem rowT_append (a b:List Ta):rowT (a++b)=rowT a++rowT b:=by unfold rowT;rw [List.flatMap_append]
theorem rowT_cons (t:Ta) (l:List Ta):rowT (t :: l)=t.vals++rowT l:=rfl
theorem rowT_get:∀ (l:List Ta) (j q:Nat) (t:Ta),l[j]?=some t→q < 9→(rowT l)[j*9+q]?=t.vals[q]?
 | [],j,q,t,h,_=>by simp at h
 | u :: l,0,q,t,h,hq=>by
  simp only [zzR,zzd] at h
  subst h
  rw [rowT_cons,Nat.zero_mul,Nat.zero_add]
  exact List.getElem?_append_left (by rw [Ta.vals_length];exact hq)
 | u :: l,j+1,q,t,h,hq=>by
  have:=rowT_get l j q t (by simpa using h) hq
  have e1:(j+1)*9+q=9+(j*9+q):=by omega
  rw [e1,rowT_cons,List.getElem?_append_right (by rw [Ta.vals_length];omega),Ta.vals_length,←this]
  simp
theorem Ta.ind {P:Ta→Prop} (h:∀ t,(∀ s∈t.subs,P s)→P t):∀ t,P t:=fun t =>
 Ta.rec (motive_1:=P) (motive_2:=fun l=>∀ s∈l,P s) (fun k r ra rc a l sa sc n m z i s ih=>h (.mk k r ra rc a l sa sc n m z i s) ih) (by simp) (fun a l ha hl=>by intro s hs;rcases zzN.1 hs with rfl | hs;exact ha;exact hl s hs) t
mutual
def Ta.tr:Ta→Tr.Tr
 | .mk k r _ _ a l _ _ n m z i s=>.mk k r a (trs l) n m z i s
def trs:List Ta→List Tr.Tr
 | []=>[]
 | t :: l=>t.tr :: trs l
end
theorem trs_map:∀ l:List Ta,trs l=l.map Ta.tr
 | []=>rfl
 | t :: l=>by rw [trs,trs_map l];rfl
theorem trs_length (l:List Ta):(trs l).length=l.length:=by rw [trs_map,zzP]
theorem Ta.tr_subs (t:Ta):t.tr.subs=t.subs.map Ta.tr:=by cases t;rw [Ta.tr,trs_map];rfl
def RdA (w:World) (S:Nat→Prop) (size:Nat) (A:Option Addr) (n c:Nat) (xs:List Value):Prop :=
 n≤c∧c≤9223372036854775807∧xs.length=n*size∧(A=none→c=0)∧(0 < n→∃ b off,A=some ⟨b,off,none⟩∧S b∧∀ j u,xs[j]?=some u→w.cell? ⟨b,off+j,none⟩=some u)
mutual
def RT (w:World) (S:Nat→Prop):Ta→Prop
 | .mk _ r ra rc _ l sa sc _ _ _ _ s=>(RdA w S 2 ra r.length rc (flat r)∧r.length≤1048576∧l.length≤1048576∧s.size≤1048576)∧RdA w S 9 sa l.length sc (rowT l)∧RTs w S l
def RTs (w:World) (S:Nat→Prop):List Ta→Prop
 | []=>True
 | t :: l=>RT w S t∧RTs w S l
end
theorem RTs_iff {w:World} {S:Nat→Prop}:∀ l:List Ta,RTs w S l ↔ ∀ t∈l,RT w S t
 | []=>by simp [RTs]
 | t :: l=>by rw [RTs,RTs_iff l];simp
section
variable {w w':World} {S S':Nat→Prop} {size n c B:Nat} {A:Option Addr} {xs:List Value} {t:Ta} {l:List Ta}
theorem RdA.reads (h:RdA w S size A n c xs) (hS:∀ b,S b→b < B):Reads w B size A n c xs :=
 ⟨h.1,h.2.1,h.2.2.1,fun hn=>by
  obtain ⟨b,off,e,hb,hc⟩:=h.2.2.2.2 hn
  exact ⟨b,off,e,hS b hb,hc⟩⟩
theorem RdA.of_reads (h:Reads w B size A n c xs) (hA:A=none→c=0):RdA w (· < B) size A n c xs:=⟨h.1,h.2.1,h.2.2.1,hA,h.2.2.2⟩
theorem RdA.mono (h:RdA w S size A n c xs) (hS:∀ b,S b→S' b):RdA w S' size A n c xs :=
 ⟨h.1,h.2.1,h.2.2.1,h.2.2.2.1,fun hn=>by
  obtain ⟨b,off,e,hb,hc⟩:=h.2.2.2.2 hn
  exact ⟨b,off,e,hS b hb,hc⟩⟩
theorem RdA.go (h:RdA w S size A n c xs) (hS:∀ b,S b→w'.heap[b]?=w.heap[b]?):RdA w' S size A n c xs :=
 ⟨h.1,h.2.1,h.2.2.1,h.2.2.2.1,fun hn=>by
  obtain ⟨b,off,e,hb,hc⟩:=h.2.2.2.2 hn
  exact ⟨b,off,e,hb,fun j u hu=>(World.cell?_of_block (a:=⟨b,off+j,none⟩) (hS b hb)).trans (hc j u hu)⟩⟩
theorem RdA.none_:RdA w S size none 0 0 []:=⟨zzF _,by omega,by simp,fun _=>rfl,fun h=>absurd h (by omega)⟩
theorem RT.parts {k:Int} {r:List (Int × Int)} {ra:Option Addr} {rc:Nat} {a:Int} {sa:Option Addr} {sc:Nat} {mn mx:Int} {z:Bool} {i:Int} {s:ByteArray} (h:RT w S (.mk k r ra rc a l sa sc mn mx z i s)) :
  (RdA w S 2 ra r.length rc (flat r)∧r.length≤1048576∧l.length≤1048576∧s.size≤1048576)∧RdA w S 9 sa l.length sc (rowT l)∧∀ t∈l,RT w S t:=by
 rw [RT,RTs_iff] at h;exact h
theorem RT.of {k:Int} {r:List (Int × Int)} {ra:Option Addr} {rc:Nat} {a:Int} {sa:Option Addr} {sc:Nat} {mn mx:Int} {z:Bool} {i:Int} {s:ByteArray}
  (h1:RdA w S 2 ra r.length rc (flat r)∧r.length≤1048576∧l.length≤1048576∧s.size≤1048576) (h2:RdA w S 9 sa l.length sc (rowT l)) (h3:∀ t∈l,RT w S t):RT w S (.mk k r ra rc a l sa sc mn mx z i s):=by
 rw [RT,RTs_iff];exact ⟨h1,h2,h3⟩
theorem RT.mono (h:RT w S t) (hS:∀ b,S b→S' b):RT w S' t:=by
 induction t using Ta.ind with
 | h t ih =>
  cases t with
  | mk k r ra rc a l sa sc n m z i s =>
   obtain ⟨h1,h2,h3⟩:=h.parts
   exact RT.of ⟨h1.1.mono hS,h1.2⟩ (h2.mono hS) fun t ht=>ih t ht (h3 t ht)
theorem RT.go (h:RT w S t) (hS:∀ b,S b→w'.heap[b]?=w.heap[b]?):RT w' S t:=by
 induction t using Ta.ind with
 | h t ih =>
  cases t with
  | mk k r ra rc a l sa sc n m z i s =>
   obtain ⟨h1,h2,h3⟩:=h.parts
   exact RT.of ⟨h1.1.go hS,h1.2⟩ (h2.go hS) fun t ht=>ih t ht (h3 t ht)
theorem RT.sub (h:RT w S t):∀ s∈t.subs,RT w S s:=by
 cases t with
 | mk k r ra rc a l sa sc n m z i s=>exact h.parts.2.2
theorem RT.below (h:RT w S t) (hS:∀ b,S b→b < B) (hb:Below B w w'):RT w' S t:=h.go fun b hb'=>hb.block b (hS b hb')
theorem RT.drewN (h:RT w S t) (k:Nat):RT (w.drewN k) S t:=h.go fun _ _=>rfl
end
def Off (w:World) (L:List Nat):Nat→Prop:=fun b=>b < w.heap.size∧b ∉ L
section
variable {w w':World} {L M:List Nat} {t:Ta}
theorem RT.kept (h:RT w (Off w L) t) (k:Kept w w' M) (hM:∀ b∈M,b∈L∨w.heap.size≤b) {L':List Nat} (hL:∀ b∈L',b∈L∨w.heap.size≤b):RT w' (Off w' L') t:=by
 refine (h.go fun b hb=>k.block b hb.1 fun hm=>?_).mono fun b hb=>⟨zzQ hb.1 k.size,fun hm=>?_⟩
 ·rcases hM b hm with e | e
  ·exact hb.2 e
  ·exact absurd hb.1 (by omega)
 ·rcases hL b hm with e | e
  ·exact hb.2 e
  ·exact absurd hb.1 (by omega)
end
end Go.Proofs.Ytkhkllpdhnmhkaa
