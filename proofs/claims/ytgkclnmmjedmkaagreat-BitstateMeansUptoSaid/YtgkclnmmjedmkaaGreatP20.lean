/- printer.node: both cases. -/
import Derived.Deep.Cut
import Derived.Test.YtgkclnmmjedmkaaGreatP12
set_option maxRecDepth 100000
set_option maxHeartbeats 4000000
namespace Go.Proofs.YtgkclnmmjedmkaaGreat
open Go.RowKit Tr
theorem noName_list (s:ByteArray):noName s=s.toList.isEmpty:=by
 rw [ByteArray.toList_eq]
 unfold noName
 rw [Bool.eq_iff_iff,zzg,List.isEmpty_iff,←List.length_eq_zero_iff,Array.length_toList]
 exact Iff.rfl
theorem asS_list (a:Int):assertB a=!(asS a).toList.isEmpty:=by
 rw [←noName_list]
 unfold asS assertB noName
 by_cases h1:(a==1)=true
 ·rw [if_pos h1,h1];rfl
 by_cases h2:(a==2)=true
 ·rw [if_neg h1,if_pos h2];simp only [Bool.not_eq_true] at h1;rw [h1,h2];rfl
 by_cases h3:(a==4)=true
 ·rw [if_neg h1,if_neg h2,if_pos h3];simp only [Bool.not_eq_true] at h1 h2;rw [h1,h2,h3];rfl
 by_cases h4:(a==8)=true
 ·rw [if_neg h1,if_neg h2,if_neg h3,if_pos h4];simp only [Bool.not_eq_true] at h1 h2 h3;rw [h1,h2,h3,h4];rfl
 by_cases h5:(a==16)=true
 ·rw [if_neg h1,if_neg h2,if_neg h3,if_neg h4,if_pos h5];simp only [Bool.not_eq_true] at h1 h2 h3 h4;rw [h1,h2,h3,h4,h5];rfl
 by_cases h6:(a==32)=true
 ·rw [if_neg h1,if_neg h2,if_neg h3,if_neg h4,if_neg h5,if_pos h6];simp only [Bool.not_eq_true] at h1 h2 h3 h4 h5;rw [h1,h2,h3,h4,h5,h6];rfl
 rw [if_neg h1,if_neg h2,if_neg h3,if_neg h4,if_neg h5,if_neg h6]
 simp only [Bool.not_eq_true] at h1 h2 h3 h4 h5 h6
 rw [h1,h2,h3,h4,h5,h6];rfl
theorem len_zero {α:Type} (r:List α):r.isEmpty=((r.length:Int)==0):=by
 cases r with
 | nil=>rfl
 | cons x r=>symm;rw [List.isEmpty_cons,zzh];simp only [zzO];omega
theorem nat_zero (q:Nat):(q==0)=((q:Int)==0):=by rw [Bool.eq_iff_iff];simp
theorem nat_one (q:Nat):(q==1)=((q:Int)==1):=by rw [Bool.eq_iff_iff];simp;omega
theorem nat_two (q:Nat):decide (2≤q)=decide ((2:Int)≤(q:Int)):=by rw [decide_eq_decide];omega
theorem node_ways (k:Int) (r:List (Int × Int)) (a:Int) (q:Nat) (n m:Int) (z:Bool) (i:Int) (s:ByteArray) {pl ct gr:Bool} (hpl:pl=(((r.length:Int)==0) && (a==0))) (hct:ct=((n==0) && ((m==0) && !z))) (hgr:gr=((i==0) && s.toList.isEmpty)) :
  ((k==1)=true→nodeF k r a q n m z i s=(pl && (((q:Int)==0) && (ct && gr)))) ∧
  ((k==2)=true→nodeF k r a q n m z i s=((a==0) && (((q:Int)==0) && (ct && (gr && rightB r))))) ∧
  ((k==3)=true→nodeF k r a q n m z i s=(((r.length:Int)==0) && (((q:Int)==0) && (ct && (gr && !(asS a).toList.isEmpty))))) ∧
  ((k==4)=true→nodeF k r a q n m z i s=(pl && (decide ((2:Int)≤(q:Int)) && (ct && gr)))) ∧
  ((k==5)=true→nodeF k r a q n m z i s=(pl && (decide ((2:Int)≤(q:Int)) && (ct && gr)))) ∧
  ((k==6)=true→nodeF k r a q n m z i s=(pl && (((q:Int)==1) && (gr && (decide (0≤n) && (decide (n≤1000) && ((m==-1) || (decide (n≤m) && decide (m≤1000))))))))) ∧
  ((k==7)=true→nodeF k r a q n m z i s=(pl && (((q:Int)==1) && (ct && (decide (1≤i) && (decide (i≤500) && (s.toList.isEmpty || nameB s))))))) ∧
  ((k==1)=false→(k==2)=false→(k==3)=false→(k==4)=false→(k==5)=false→(k==6)=false→(k==7)=false→nodeF k r a q n m z i s=false):=by
 have e0:noName ByteArray.empty=true:=rfl
 rw [hpl,hct,hgr,←noName_list,←asS_list,←len_zero r,←nat_zero q,←nat_one q,←nat_two q]
 refine ⟨fun h=>?_,fun h=>?_,fun h=>?_,fun h=>?_,fun h=>?_,fun h=>?_,fun h=>?_,fun h1 h2 h3 h4 h5 h6 h7=>?_⟩
 ·rw [zyE] at h;subst h
  simp only [nodeF,if_pos,zeroB]
  generalize r.isEmpty=x1,(a==0)=x2,(n==0)=x3,(m==0)=x4,(i==0)=x5,noName s=x6,(q==0)=x7
  cases x1 <;> cases x2 <;> cases x3 <;> cases x4 <;> cases z <;> cases x5 <;> cases x6 <;> cases x7 <;> rfl
 ·rw [zyE] at h;subst h
  have:nodeF 2 r a q n m z i s=(zeroB [] a n m z i s && (q==0 && rightB r)):=rfl
  rw [this,zeroB,List.isEmpty_nil]
  generalize (a==0)=x2,(n==0)=x3,(m==0)=x4,(i==0)=x5,noName s=x6,(q==0)=x7,rightB r=x8
  cases x2 <;> cases x3 <;> cases x4 <;> cases z <;> cases x5 <;> cases x6 <;> cases x7 <;> cases x8 <;> rfl
 ·rw [zyE] at h;subst h
  have:nodeF 3 r a q n m z i s=(zeroB r 0 n m z i s && (q==0 && assertB a)):=rfl
  rw [this,zeroB,show ((0:Int)==0)=true from rfl]
  generalize r.isEmpty=x2,(n==0)=x3,(m==0)=x4,(i==0)=x5,noName s=x6,(q==0)=x7,assertB a=x8
  cases x2 <;> cases x3 <;> cases x4 <;> cases z <;> cases x5 <;> cases x6 <;> cases x7 <;> cases x8 <;> rfl
 ·rw [zyE] at h;subst h
  have:nodeF 4 r a q n m z i s=(zeroB r a n m z i s && decide (2≤q)):=rfl
  rw [this,zeroB]
  generalize r.isEmpty=x1,(a==0)=x2,(n==0)=x3,(m==0)=x4,(i==0)=x5,noName s=x6,decide (2≤q)=x7
  cases x1 <;> cases x2 <;> cases x3 <;> cases x4 <;> cases z <;> cases x5 <;> cases x6 <;> cases x7 <;> rfl
 ·rw [zyE] at h;subst h
  have:nodeF 5 r a q n m z i s=(zeroB r a n m z i s && decide (2≤q)):=rfl
  rw [this,zeroB]
  generalize r.isEmpty=x1,(a==0)=x2,(n==0)=x3,(m==0)=x4,(i==0)=x5,noName s=x6,decide (2≤q)=x7
  cases x1 <;> cases x2 <;> cases x3 <;> cases x4 <;> cases z <;> cases x5 <;> cases x6 <;> cases x7 <;> rfl
 ·rw [zyE] at h;subst h
  have:nodeF 6 r a q n m z i s=(zeroB r a 0 0 false i s && (q==1 && (decide (0≤n) && (decide (n≤1000) && (m==-1 || (decide (n≤m) && decide (m≤1000))))))):=rfl
  rw [this,zeroB,show ((0:Int)==0)=true from rfl]
  generalize r.isEmpty=x1,(a==0)=x2,(i==0)=x5,noName s=x6,(q==1)=x7,(decide (0≤n) && (decide (n≤1000) && (m==-1 || (decide (n≤m) && decide (m≤1000)))))=x8
  cases x1 <;> cases x2 <;> cases x5 <;> cases x6 <;> cases x7 <;> cases x8 <;> rfl
 ·rw [zyE] at h;subst h
  have:nodeF 7 r a q n m z i s=(zeroB r a n m z 0 .empty && (q==1 && (decide (1≤i) && (decide (i≤500) && (noName s || nameB s))))):=rfl
  rw [this,zeroB,show ((0:Int)==0)=true from rfl,e0]
  generalize r.isEmpty=x1,(a==0)=x2,(n==0)=x3,(m==0)=x4,(q==1)=x7,(decide (1≤i) && (decide (i≤500) && (noName s || nameB s)))=x8
  cases x1 <;> cases x2 <;> cases x3 <;> cases x4 <;> cases z <;> cases x7 <;> cases x8 <;> rfl
 ·simp only [zzh] at h1 h2 h3 h4 h5 h6 h7
  unfold nodeF
  rw [if_neg h1,if_neg h2,if_neg h3,if_neg h4,if_neg h5,if_neg h6,if_neg h7]
theorem pnode_any (t:Ta) (S:Nat→Prop) (w:World) (h:RT w S t) (hS:∀ b,S b→b < w.heap.size) :
  Calls Tryz.prog 83 #[t.val] w fun e w'=>e=.returned (.bool (nodeB t.tr))∧Below w.heap.size w w':=by
 cases t with
 | mk k r ra rc ast l sa sc mn mx z ix nm =>
 simp only [Ta.val,Ta.vals]
 obtain ⟨pl,hpl⟩:∃ b,b=(((r.length:Int)==0) && (ast==0)):=⟨_,rfl⟩
 obtain ⟨ct,hct⟩:∃ b,b=((mn==0) && ((mx==0) && !z)):=⟨_,rfl⟩
 obtain ⟨gr,hgr⟩:∃ b,b=((ix==0) && nm.toList.isEmpty):=⟨_,rfl⟩
 have HPL:=zzA hpl
 have HCT:=zzA hct
 have HGR:=zzA hgr
 clear hpl hct hgr
 have hnw:=node_ways k r ast l.length mn mx z ix nm HPL.out HCT.out HGR.out
 have hnb:nodeB (Ta.mk k r ra rc ast l sa sc mn mx z ix nm).tr=nodeF k r ast l.length mn mx z ix nm:=by rw [Ta.tr,nodeB,trs_length]
 rw [hnb]
 clear hnb
 obtain ⟨⟨hR,hrl,hll,hnm⟩,-,-⟩:=h.parts
 have HNW:=zzA hnw
 obtain ⟨res,hres⟩:∃ b,b=nodeF k r ast l.length mn mx z ix nm:=⟨_,rfl⟩
 rw [←hres] at HNW ⊢
 have hb0:Below w.heap.size w (w.alloc (.cells #[.int .i64 k,.slice ra r.length rc,.int .i64 ast,.slice sa l.length sc,.int .i64 mn,.int .i64 mx,.bool z,.int .i64 ix,.string nm] 25)):=(zzb _ _).alloc (zzF _) _
 have HRT:=zzA (right_any ra r.length rc r (w.alloc (.cells #[.int .i64 k,.slice ra r.length rc,.int .i64 ast,.slice sa l.length sc,.int .i64 mn,.int .i64 mx,.bool z,.int .i64 ix,.string nm] 25)) (((hR.reads hS).below hb0).more hb0.size))
 have HB0:=zzA hb0
 clear hnw hres h hR hS hb0
 have hways:(k==1)=true∨((k==1)=false∧(k==2)=true)∨((k==1)=false∧(k==2)=false∧(k==3)=true)∨((k==1)=false∧(k==2)=false∧(k==3)=false∧(k==4)=true∧(k==5)=false)∨((k==1)=false∧(k==2)=false∧(k==3)=false∧(k==4)=false∧(k==5)=true)∨((k==1)=false∧(k==2)=false∧(k==3)=false∧(k==4)=false∧(k==5)=false∧(k==6)=true)∨((k==1)=false∧(k==2)=false∧(k==3)=false∧(k==4)=false∧(k==5)=false∧(k==6)=false∧(k==7)=true)∨((k==1)=false∧(k==2)=false∧(k==3)=false∧(k==4)=false∧(k==5)=false∧(k==6)=false∧(k==7)=false):=by
  simp only [zyE,zzh];omega
 have HW:=zzA hways
 clear hways
 go_enter Tryz.func83,Tryz.ntmps83
 go_upto_region 1 with (fail)
 go_cut [3] from 6 (fun s3 w'=>s3=.bool pl∧w'=w.alloc (.cells #[.int .i64 k,.slice ra r.length rc,.int .i64 ast,.slice sa l.length sc,.int .i64 mn,.int .i64 mx,.bool z,.int .i64 ix,.string nm] 25))
 case first =>
  obtain ⟨b0,hb0⟩:∃ b,((r.length:Int)==0)=b:=⟨_,rfl⟩
  obtain ⟨b1,hb1⟩:∃ b,(ast==0)=b:=⟨_,rfl⟩
  have hq:=HPL.out
  simp only [hb0,hb1] at hq
  have HQ:=zzA hq
  clear hq
  cases b0 <;> cases b1
  all_goals go_wp2_with fail
  all_goals go_meet
  all_goals exact ⟨by rw [HQ.out];rfl,rfl⟩
 case rest =>
  obtain ⟨rfl,rfl⟩:=hcut
  go_upto_region 2 with (fail)
  go_cut [4] from 6 (fun s3 w'=>s3=.bool ct∧w'=w.alloc (.cells #[.int .i64 k,.slice ra r.length rc,.int .i64 ast,.slice sa l.length sc,.int .i64 mn,.int .i64 mx,.bool z,.int .i64 ix,.string nm] 25))
  case first =>
   obtain ⟨b0,hb0⟩:∃ b,(mn==0)=b:=⟨_,rfl⟩
   obtain ⟨b1,hb1⟩:∃ b,(mx==0)=b:=⟨_,rfl⟩
   have hq:=HCT.out
   simp only [hb0,hb1] at hq
   have HQ:=zzA hq
   clear hq
   cases b0 <;> cases b1
   all_goals go_wp2_with fail
   all_goals go_meet
   all_goals exact ⟨by rw [HQ.out];rfl,rfl⟩
  case rest =>
   obtain ⟨rfl,rfl⟩:=hcut
   go_upto_region 3 with (fail)
   go_cut [5] from 6 (fun s3 w'=>s3=.bool gr∧w'=w.alloc (.cells #[.int .i64 k,.slice ra r.length rc,.int .i64 ast,.slice sa l.length sc,.int .i64 mn,.int .i64 mx,.bool z,.int .i64 ix,.string nm] 25))
   case first =>
    obtain ⟨b0,hb0⟩:∃ b,(ix==0)=b:=⟨_,rfl⟩
    have hq:=HGR.out
    simp only [hb0] at hq
    have HQ:=zzA hq
    clear hq
    cases b0
    all_goals go_wp2_with fail
    all_goals go_meet
    all_goals exact ⟨by rw [HQ.out];rfl,rfl⟩
   case rest =>
    obtain ⟨rfl,rfl⟩:=hcut
    rcases HW.out with h1 | ⟨h1,h2⟩ | ⟨h1,h2,h3⟩ | ⟨h1,h2,h3,h4,h5⟩ | ⟨h1,h2,h3,h4,h5⟩ | ⟨h1,h2,h3,h4,h5,h6⟩ | ⟨h1,h2,h3,h4,h5,h6,h7⟩ | ⟨h1,h2,h3,h4,h5,h6,h7⟩
    ·have hn:=HNW.out.1 h1
     clear HNW
     go_wp2_with fail
     all_goals go_ret
     all_goals exact ⟨ret_bool (by simp [*]),(zzb _ _).alloc (zzF _) _⟩
    ·have hn:=HNW.out.2.1 h2
     clear HNW
     obtain ⟨b0,hb0⟩:∃ b,(ast==0)=b:=⟨_,rfl⟩
     obtain ⟨b1,hb1⟩:∃ b,((l.length:Int)==0)=b:=⟨_,rfl⟩
     simp only [hb0,hb1] at hn
     cases b0 <;> cases b1
     all_goals have HN:=zzA hn
     all_goals clear hn
     all_goals go_wp2_with (go_at_call 60;refine HRT.out.mono ?_;rintro e w3 ⟨rfl,hb3⟩;have HB3:=zzA hb3;clear hb3;simp only [])
     all_goals go_ret
     all_goals first | exact ⟨ret_bool (HN.out.trans (by first | rfl | (simp [*];done) | (simp [*];omega))).symm,HB0.out.trans (HB3.out.mono HB0.out.size)⟩ | exact ⟨ret_bool (HN.out.trans (by first | rfl | (simp [*];done) | (simp [*];omega))).symm,HB0.out⟩
    ·have hn:=HNW.out.2.2.1 h3
     clear HNW
     obtain ⟨b0,hb0⟩:∃ b,((r.length:Int)==0)=b:=⟨_,rfl⟩
     obtain ⟨b1,hb1⟩:∃ b,((l.length:Int)==0)=b:=⟨_,rfl⟩
     simp only [hb0,hb1] at hn
     cases b0 <;> cases b1
     all_goals have HN:=zzA hn
     all_goals clear hn
     all_goals go_wp2_with (go_at_call 104;refine (assertion_any ast _).mono ?_;rintro e w3 ⟨rfl,rfl⟩;simp only [])
     all_goals go_ret
     all_goals first | exact ⟨ret_bool (HN.out.trans (by first | rfl | (simp [*];done) | (simp [*];omega))).symm,HB0.out.trans (HB3.out.mono HB0.out.size)⟩ | exact ⟨ret_bool (HN.out.trans (by first | rfl | (simp [*];done) | (simp [*];omega))).symm,HB0.out⟩
    ·have hn:=HNW.out.2.2.2.1 h4
     clear HNW
     all_goals have HN:=zzA hn
     all_goals clear hn
     all_goals go_wp2_with fail
     all_goals go_ret
     all_goals first | exact ⟨ret_bool (HN.out.trans (by first | rfl | (simp [*];done) | (simp [*];omega))).symm,HB0.out.trans (HB3.out.mono HB0.out.size)⟩ | exact ⟨ret_bool (HN.out.trans (by first | rfl | (simp [*];done) | (simp [*];omega))).symm,HB0.out⟩
    ·have hn:=HNW.out.2.2.2.2.1 h5
     clear HNW
     all_goals have HN:=zzA hn
     all_goals clear hn
     all_goals go_wp2_with fail
     all_goals go_ret
     all_goals first | exact ⟨ret_bool (HN.out.trans (by first | rfl | (simp [*];done) | (simp [*];omega))).symm,HB0.out.trans (HB3.out.mono HB0.out.size)⟩ | exact ⟨ret_bool (HN.out.trans (by first | rfl | (simp [*];done) | (simp [*];omega))).symm,HB0.out⟩
    ·have hn:=HNW.out.2.2.2.2.2.1 h6
     clear HNW
     obtain ⟨b0,hb0⟩:∃ b,((l.length:Int)==1)=b:=⟨_,rfl⟩
     obtain ⟨b1,hb1⟩:∃ b,(mx==-1)=b:=⟨_,rfl⟩
     simp only [hb0,hb1] at hn
     cases b0 <;> cases b1
     all_goals have HN:=zzA hn
     all_goals clear hn
     all_goals go_wp2_with fail
     all_goals go_ret
     all_goals first | exact ⟨ret_bool (HN.out.trans (by first | rfl | (simp [*];done) | (simp [*];omega))).symm,HB0.out.trans (HB3.out.mono HB0.out.size)⟩ | exact ⟨ret_bool (HN.out.trans (by first | rfl | (simp [*];done) | (simp [*];omega))).symm,HB0.out⟩
    ·have hn:=HNW.out.2.2.2.2.2.2.1 h7
     clear HNW
     obtain ⟨b0,hb0⟩:∃ b,((l.length:Int)==1)=b:=⟨_,rfl⟩
     obtain ⟨b1,hb1⟩:∃ b,nm.toList.isEmpty=b:=⟨_,rfl⟩
     simp only [hb0,hb1] at hn
     cases b0 <;> cases b1
     all_goals have HN:=zzA hn
     all_goals clear hn
     all_goals go_wp2_with (go_at_call 105;refine (name_any nm _ hnm).mono ?_;rintro e w3 ⟨rfl,rfl⟩;simp only [])
     all_goals go_ret
     all_goals first | exact ⟨ret_bool (HN.out.trans (by first | rfl | (simp [*];done) | (simp [*];omega))).symm,HB0.out.trans (HB3.out.mono HB0.out.size)⟩ | exact ⟨ret_bool (HN.out.trans (by first | rfl | (simp [*];done) | (simp [*];omega))).symm,HB0.out⟩
    ·have hn:=HNW.out.2.2.2.2.2.2.2 h1 h2 h3 h4 h5 h6 h7
     clear HNW
     all_goals have HN:=zzA hn
     all_goals clear hn
     all_goals go_wp2_with fail
     all_goals go_ret
     all_goals first | exact ⟨ret_bool (HN.out.trans (by first | rfl | (simp [*];done) | (simp [*];omega))).symm,HB0.out.trans (HB3.out.mono HB0.out.size)⟩ | exact ⟨ret_bool (HN.out.trans (by first | rfl | (simp [*];done) | (simp [*];omega))).symm,HB0.out⟩
theorem rAssertion_any (n:Int) (w:World) :
  Calls Tryz.prog 99 #[.int .i64 n] w fun e w'=>e=.returned (.bool (assertB n))∧w=w':=by
 go_enter Tryz.func99,Tryz.ntmps99
 go_wp2_with fail
 all_goals go_ret
 all_goals exact ⟨ret_bool (by simp [assertB, *]),rfl⟩
def bareB (f1 f2 f3 f4 f5:Bool) (r:List (Int × Int)) (a:Int) (q:Nat) (n m:Int) (z:Bool) (i:Int) (s:ByteArray):Bool :=
 (f1 || ((r.length:Int)==0)) && ((f2 || (a==0)) && ((f3 || ((q:Int)==0)) && ((f4 || ((n==0) && ((m==0) && !z))) && (f5 || ((i==0) && s.toList.isEmpty)))))
theorem bare_any (f1 f2 f3 f4 f5:Bool) (hf:(f1=false∧f2=false∧f3=false∧f4=false∧f5=false)∨(f1=true∧f2=false∧f3=false∧f4=false∧f5=false)∨(f1=false∧f2=true∧f3=false∧f4=false∧f5=false)∨(f1=false∧f2=false∧f3=true∧f4=false∧f5=false)∨(f1=false∧f2=false∧f3=true∧f4=true∧f5=false)∨(f1=false∧f2=false∧f3=true∧f4=false∧f5=true))
  (k:Int) (r:List (Int × Int)) (ra:Option Addr) (rc:Nat) (ast:Int) (l:List Ta) (sa:Option Addr) (sc:Nat) (mn mx:Int) (z:Bool) (ix:Int) (nm:ByteArray) (w:World) (hrl:r.length≤1048576) (hll:l.length≤1048576) :
  Calls Tryz.prog 97 #[(Ta.mk k r ra rc ast l sa sc mn mx z ix nm).val,.bool f1,.bool f2,.bool f3,.bool f4,.bool f5] w fun e w'=>e=.returned (.bool (bareB f1 f2 f3 f4 f5 r ast l.length mn mx z ix nm))∧Below w.heap.size w w':=by
 simp only [Ta.val,Ta.vals]
 rcases hf with ⟨rfl,rfl,rfl,rfl,rfl⟩ | ⟨rfl,rfl,rfl,rfl,rfl⟩ | ⟨rfl,rfl,rfl,rfl,rfl⟩ | ⟨rfl,rfl,rfl,rfl,rfl⟩ | ⟨rfl,rfl,rfl,rfl,rfl⟩ | ⟨rfl,rfl,rfl,rfl,rfl⟩
 all_goals
  go_enter Tryz.func97,Tryz.ntmps97
  go_wp2_with fail
 all_goals go_ret
 all_goals exact ⟨ret_bool (by simp [bareB, *]),(zzb _ _).alloc (zzF _) _⟩
end Go.Proofs.YtgkclnmmjedmkaaGreat
