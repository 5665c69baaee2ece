/- heronref05.node: both cases. -/
import Derived.Test.YtgkclnmmjedmkaaGreatP24
import Derived.Test.YtgkclnmmjedmkaaGreatP25
set_option maxRecDepth 100000
set_option maxHeartbeats 4000000
namespace Go.Proofs.YtgkclnmmjedmkaaGreat
open Go.RowKit Tr
theorem ref_ways (k:Int) (r:List (Int × Int)) (a:Int) (q:Nat) (n m:Int) (z:Bool) (i:Int) (s:ByteArray) :
  ((k==1)=true→nodeF k r a q n m z i s=bareB false false false false false r a q n m z i s) ∧
  ((k==2)=true→nodeF k r a q n m z i s=(rightB r && bareB true false false false false r a q n m z i s)) ∧
  ((k==3)=true→nodeF k r a q n m z i s=(assertB a && bareB false true false false false r a q n m z i s)) ∧
  ((k==4)=true→nodeF k r a q n m z i s=(decide ((2:Int)≤(q:Int)) && bareB false false true false false r a q n m z i s)) ∧
  ((k==5)=true→nodeF k r a q n m z i s=(decide ((2:Int)≤(q:Int)) && bareB false false true false false r a q n m z i s)) ∧
  ((k==6)=true→nodeF k r a q n m z i s=(((q:Int)==1) && (decide (0≤n) && (decide (n≤1000) && (((m==-1) || (decide (n≤m) && decide (m≤1000))) && bareB false false true true false r a q n m z i s))))) ∧
  ((k==7)=true→nodeF k r a q n m z i s=(((q:Int)==1) && (decide (1≤i) && (decide (i≤500) && ((s.toList.isEmpty || nameB s) && bareB false false true false true r a q n m z i s))))):=by
 obtain ⟨g1,g2,g3,g4,g5,g6,g7,-⟩:=node_ways k r a q n m z i s rfl rfl rfl
 rw [←asS_list] at g3
 unfold bareB
 refine ⟨fun h=>?_,fun h=>?_,fun h=>?_,fun h=>?_,fun h=>?_,fun h=>?_,fun h=>?_⟩
 ·rw [g1 h]
  generalize ((r.length:Int)==0)=x1,(a==0)=x2,(n==0)=x3,(m==0)=x4,(i==0)=x5,s.toList.isEmpty=x6,((q:Int)==0)=x7
  cases x1 <;> cases x2 <;> cases x3 <;> cases x4 <;> cases z <;> cases x5 <;> cases x6 <;> cases x7 <;> rfl
 ·rw [g2 h]
  generalize (a==0)=x2,(n==0)=x3,(m==0)=x4,(i==0)=x5,s.toList.isEmpty=x6,((q:Int)==0)=x7,rightB r=x8
  cases x2 <;> cases x3 <;> cases x4 <;> cases z <;> cases x5 <;> cases x6 <;> cases x7 <;> cases x8 <;> rfl
 ·rw [g3 h]
  generalize ((r.length:Int)==0)=x2,(n==0)=x3,(m==0)=x4,(i==0)=x5,s.toList.isEmpty=x6,((q:Int)==0)=x7,assertB a=x8
  cases x2 <;> cases x3 <;> cases x4 <;> cases z <;> cases x5 <;> cases x6 <;> cases x7 <;> cases x8 <;> rfl
 ·rw [g4 h]
  generalize ((r.length:Int)==0)=x1,(a==0)=x2,(n==0)=x3,(m==0)=x4,(i==0)=x5,s.toList.isEmpty=x6,decide ((2:Int)≤(q:Int))=x7
  cases x1 <;> cases x2 <;> cases x3 <;> cases x4 <;> cases z <;> cases x5 <;> cases x6 <;> cases x7 <;> rfl
 ·rw [g5 h]
  generalize ((r.length:Int)==0)=x1,(a==0)=x2,(n==0)=x3,(m==0)=x4,(i==0)=x5,s.toList.isEmpty=x6,decide ((2:Int)≤(q:Int))=x7
  cases x1 <;> cases x2 <;> cases x3 <;> cases x4 <;> cases z <;> cases x5 <;> cases x6 <;> cases x7 <;> rfl
 ·rw [g6 h]
  generalize ((r.length:Int)==0)=x1,(a==0)=x2,(i==0)=x5,s.toList.isEmpty=x6,((q:Int)==1)=x7,((m==-1) || (decide (n≤m) && decide (m≤1000)))=x8,decide (0≤n)=x3,decide (n≤1000)=x4
  cases x1 <;> cases x2 <;> cases x3 <;> cases x4 <;> cases x5 <;> cases x6 <;> cases x7 <;> cases x8 <;> rfl
 ·rw [g7 h]
  generalize ((r.length:Int)==0)=x1,(a==0)=x2,(n==0)=x3,(m==0)=x4,((q:Int)==1)=x7,(s.toList.isEmpty || nameB s)=x8,decide (1≤i)=x5,decide (i≤500)=x6
  cases x1 <;> cases x2 <;> cases x3 <;> cases x4 <;> cases z <;> cases x5 <;> cases x6 <;> cases x7 <;> cases x8 <;> rfl
theorem rnode_any (t:Ta) (S:Nat→Prop) (w:World) (h:RT w S t) (hS:∀ b,S b→b < w.heap.size) :
  Calls Tryz.prog 64 #[t.val] w fun e w'=>e=.returned (.bool (nodeB t.tr))∧Below w.heap.size w w':=by
 cases t with
 | mk k r ra rc ast l sa sc mn mx z ix nm =>
 have hnw:=ref_ways k r ast l.length mn mx z ix nm
 have hn0:=(node_ways k r ast l.length mn mx z ix nm rfl rfl rfl).2.2.2.2.2.2.2
 have hnb:nodeB (Ta.mk k r ra rc ast l sa sc mn mx z ix nm).tr=nodeF k r ast l.length mn mx z ix nm:=by rw [Ta.tr,nodeB,trs_length]
 rw [hnb]
 clear hnb
 obtain ⟨⟨hR,hrl,hll,hnm⟩,-,-⟩:=h.parts
 have HNW:=zzA hnw
 have HN0:=zzA hn0
 have hb0:Below w.heap.size w (w.alloc (.cells #[.int .i64 k,.slice ra r.length rc,.int .i64 ast,.slice sa l.length sc,.int .i64 mn,.int .i64 mx,.bool z,.int .i64 ix,.string nm] 25)):=(zzb _ _).alloc (zzF _) _
 have HRT:=zzA (refRight_any ra r.length rc w.heap.size r (w.alloc (.cells #[.int .i64 k,.slice ra r.length rc,.int .i64 ast,.slice sa l.length sc,.int .i64 mn,.int .i64 mx,.bool z,.int .i64 ix,.string nm] 25)) ((hR.reads hS).below hb0))
 have HB0:=zzA hb0
 have HBR:=zzA (fun f1 f2 f3 f4 f5 hf u=>bare_any f1 f2 f3 f4 f5 hf k r ra rc ast l sa sc mn mx z ix nm u hrl hll)
 obtain ⟨res,hres⟩:∃ b,b=nodeF k r ast l.length mn mx z ix nm:=⟨_,rfl⟩
 rw [←hres] at HNW HN0 ⊢
 clear hnw hn0 hres h hR hS hb0
 have hways:(k==1)=true∨((k==1)=false∧(k==2)=true)∨((k==1)=false∧(k==2)=false∧(k==3)=true)∨((k==1)=false∧(k==2)=false∧(k==3)=false∧(k==4)=true∧(k==5)=false)∨((k==1)=false∧(k==2)=false∧(k==3)=false∧(k==4)=false∧(k==5)=true)∨((k==1)=false∧(k==2)=false∧(k==3)=false∧(k==4)=false∧(k==5)=false∧(k==6)=true)∨((k==1)=false∧(k==2)=false∧(k==3)=false∧(k==4)=false∧(k==5)=false∧(k==6)=false∧(k==7)=true)∨((k==1)=false∧(k==2)=false∧(k==3)=false∧(k==4)=false∧(k==5)=false∧(k==6)=false∧(k==7)=false):=by
  simp only [zyE,zzh];omega
 simp only [Ta.val,Ta.vals] at HBR ⊢
 rcases hways with h1 | ⟨h1,h2⟩ | ⟨h1,h2,h3⟩ | ⟨h1,h2,h3,h4,h5⟩ | ⟨h1,h2,h3,h4,h5⟩ | ⟨h1,h2,h3,h4,h5,h6⟩ | ⟨h1,h2,h3,h4,h5,h6,h7⟩ | ⟨h1,h2,h3,h4,h5,h6,h7⟩
 ·have hn:=HNW.out.1 h1
  clear HNW HN0
  have hbr:=fun u=>zzA (HBR.out false false false false false (by simp) u)
  obtain ⟨bb,hbb⟩:∃ b,b=bareB false false false false false r ast l.length mn mx z ix nm:=⟨_,rfl⟩
  rw [←hbb] at hn
  simp only [←hbb] at hbr
  clear hbb
  have HN:=zzA hn
  clear hn
  all_goals go_enter Tryz.func64,Tryz.ntmps64
  all_goals go_wp2_with (go_at_call 97;refine (hbr _).out.mono ?_;rintro e w4 ⟨rfl,hb4⟩;have HB4:=zzA hb4;clear hb4;simp only [])
  all_goals go_ret
  all_goals first
   | exact ⟨ret_bool (HN.out.trans (by first | rfl | (simp [*];done) | (simp [*];omega))).symm,HB0.out.trans (HB4.out.mono HB0.out.size)⟩
   | exact ⟨ret_bool (HN.out.trans (by first | rfl | (simp [*];done) | (simp [*];omega))).symm,HB0.out⟩
 ·have hn:=HNW.out.2.1 h2
  clear HNW HN0
  have hbr:=fun u=>zzA (HBR.out true false false false false (by simp) u)
  obtain ⟨bb,hbb⟩:∃ b,b=bareB true false false false false r ast l.length mn mx z ix nm:=⟨_,rfl⟩
  rw [←hbb] at hn
  simp only [←hbb] at hbr
  clear hbb
  obtain ⟨b0,hb0⟩:∃ b,rightB r=b:=⟨_,rfl⟩
  simp only [hb0] at hn
  have HN:=zzA hn
  clear hn
  cases b0
  all_goals go_enter Tryz.func64,Tryz.ntmps64
  all_goals go_wp2_with (first | (go_at_call 98;refine HRT.out.mono ?_;rintro e w3 ⟨rfl,mm,rfl⟩;simp only [hb0]) | (go_at_call 97;refine (hbr _).out.mono ?_;rintro e w4 ⟨rfl,hb4⟩;have HB4:=zzA hb4;clear hb4;simp only []))
  all_goals go_ret
  all_goals first
   | exact ⟨ret_bool (HN.out.trans (by first | rfl | (simp [*];done) | (simp [*];omega))).symm,(bdrewN HB0.out mm).trans (HB4.out.mono (bdrewN HB0.out mm).size)⟩
   | exact ⟨ret_bool (HN.out.trans (by first | rfl | (simp [*];done) | (simp [*];omega))).symm,(bdrewN HB0.out mm)⟩
 ·have hn:=HNW.out.2.2.1 h3
  clear HNW HN0
  have hbr:=fun u=>zzA (HBR.out false true false false false (by simp) u)
  obtain ⟨bb,hbb⟩:∃ b,b=bareB false true false false false r ast l.length mn mx z ix nm:=⟨_,rfl⟩
  rw [←hbb] at hn
  simp only [←hbb] at hbr
  clear hbb
  obtain ⟨b0,hb0⟩:∃ b,assertB ast=b:=⟨_,rfl⟩
  simp only [hb0] at hn
  have HN:=zzA hn
  clear hn
  cases b0
  all_goals go_enter Tryz.func64,Tryz.ntmps64
  all_goals go_wp2_with (first | (go_at_call 99;refine (rAssertion_any ast _).mono ?_;rintro e w3 ⟨rfl,rfl⟩;simp only [hb0]) | (go_at_call 97;refine (hbr _).out.mono ?_;rintro e w4 ⟨rfl,hb4⟩;have HB4:=zzA hb4;clear hb4;simp only []))
  all_goals go_ret
  all_goals first
   | exact ⟨ret_bool (HN.out.trans (by first | rfl | (simp [*];done) | (simp [*];omega))).symm,HB0.out.trans (HB4.out.mono HB0.out.size)⟩
   | exact ⟨ret_bool (HN.out.trans (by first | rfl | (simp [*];done) | (simp [*];omega))).symm,HB0.out⟩
 ·have hn:=HNW.out.2.2.2.1 h4
  clear HNW HN0
  have hbr:=fun u=>zzA (HBR.out false false true false false (by simp) u)
  obtain ⟨bb,hbb⟩:∃ b,b=bareB false false true false false r ast l.length mn mx z ix nm:=⟨_,rfl⟩
  rw [←hbb] at hn
  simp only [←hbb] at hbr
  clear hbb
  have HN:=zzA hn
  clear hn
  all_goals go_enter Tryz.func64,Tryz.ntmps64
  all_goals go_wp2_with (go_at_call 97;refine (hbr _).out.mono ?_;rintro e w4 ⟨rfl,hb4⟩;have HB4:=zzA hb4;clear hb4;simp only [])
  all_goals go_ret
  all_goals first
   | exact ⟨ret_bool (HN.out.trans (by first | rfl | (simp [*];done) | (simp [*];omega))).symm,HB0.out.trans (HB4.out.mono HB0.out.size)⟩
   | exact ⟨ret_bool (HN.out.trans (by first | rfl | (simp [*];done) | (simp [*];omega))).symm,HB0.out⟩
 ·have hn:=HNW.out.2.2.2.2.1 h5
  clear HNW HN0
  have hbr:=fun u=>zzA (HBR.out false false true false false (by simp) u)
  obtain ⟨bb,hbb⟩:∃ b,b=bareB false false true false false r ast l.length mn mx z ix nm:=⟨_,rfl⟩
  rw [←hbb] at hn
  simp only [←hbb] at hbr
  clear hbb
  have HN:=zzA hn
  clear hn
  all_goals go_enter Tryz.func64,Tryz.ntmps64
  all_goals go_wp2_with (go_at_call 97;refine (hbr _).out.mono ?_;rintro e w4 ⟨rfl,hb4⟩;have HB4:=zzA hb4;clear hb4;simp only [])
  all_goals go_ret
  all_goals first
   | exact ⟨ret_bool (HN.out.trans (by first | rfl | (simp [*];done) | (simp [*];omega))).symm,HB0.out.trans (HB4.out.mono HB0.out.size)⟩
   | exact ⟨ret_bool (HN.out.trans (by first | rfl | (simp [*];done) | (simp [*];omega))).symm,HB0.out⟩
 ·have hn:=HNW.out.2.2.2.2.2.1 h6
  clear HNW HN0
  have hbr:=fun u=>zzA (HBR.out false false true true false (by simp) u)
  obtain ⟨bb,hbb⟩:∃ b,b=bareB false false true true false r ast l.length mn mx z ix nm:=⟨_,rfl⟩
  rw [←hbb] at hn
  simp only [←hbb] at hbr
  clear hbb
  obtain ⟨b0,hb0⟩:∃ b,((l.length:Int)==1)=b:=⟨_,rfl⟩
  obtain ⟨b1,hb1⟩:∃ b,(mx==-1)=b:=⟨_,rfl⟩
  simp only [hb0,hb1] at hn
  have HN:=zzA hn
  clear hn
  cases b0 <;> cases b1
  all_goals go_enter Tryz.func64,Tryz.ntmps64
  all_goals go_wp2_with (go_at_call 97;refine (hbr _).out.mono ?_;rintro e w4 ⟨rfl,hb4⟩;have HB4:=zzA hb4;clear hb4;simp only [])
  all_goals go_ret
  all_goals first
   | exact ⟨ret_bool (HN.out.trans (by first | rfl | (simp [*];done) | (simp [*];omega))).symm,HB0.out.trans (HB4.out.mono HB0.out.size)⟩
   | exact ⟨ret_bool (HN.out.trans (by first | rfl | (simp [*];done) | (simp [*];omega))).symm,HB0.out⟩
 ·have hn:=HNW.out.2.2.2.2.2.2 h7
  clear HNW HN0
  have hbr:=fun u=>zzA (HBR.out false false true false true (by simp) u)
  obtain ⟨bb,hbb⟩:∃ b,b=bareB false false true false true r ast l.length mn mx z ix nm:=⟨_,rfl⟩
  rw [←hbb] at hn
  simp only [←hbb] at hbr
  clear hbb
  obtain ⟨b0,hb0⟩:∃ b,((l.length:Int)==1)=b:=⟨_,rfl⟩
  obtain ⟨b1,hb1⟩:∃ b,nm.toList.isEmpty=b:=⟨_,rfl⟩
  obtain ⟨b2,hb2⟩:∃ b,nameB nm=b:=⟨_,rfl⟩
  simp only [hb0,hb1,hb2] at hn
  have HN:=zzA hn
  clear hn
  cases b0 <;> cases b1 <;> cases b2
  all_goals go_enter Tryz.func64,Tryz.ntmps64
  all_goals go_wp2_with (first | (go_at_call 100;refine (rName_any nm _ hnm).mono ?_;rintro e w3 ⟨rfl,rfl⟩;simp only [hb2]) | (go_at_call 97;refine (hbr _).out.mono ?_;rintro e w4 ⟨rfl,hb4⟩;have HB4:=zzA hb4;clear hb4;simp only []))
  all_goals go_ret
  all_goals first
   | exact ⟨ret_bool (HN.out.trans (by first | rfl | (simp [*];done) | (simp [*];omega))).symm,HB0.out.trans (HB4.out.mono HB0.out.size)⟩
   | exact ⟨ret_bool (HN.out.trans (by first | rfl | (simp [*];done) | (simp [*];omega))).symm,HB0.out⟩
 ·have hn:=HN0.out h1 h2 h3 h4 h5 h6 h7
  clear HNW HN0
  have HN:=zzA hn
  clear hn
  all_goals go_enter Tryz.func64,Tryz.ntmps64
  all_goals go_wp2_with fail
  all_goals go_ret
  all_goals first
   | exact ⟨ret_bool (HN.out.trans (by first | rfl | (simp [*];done) | (simp [*];omega))).symm,HB0.out.trans (HB4.out.mono HB0.out.size)⟩
   | exact ⟨ret_bool (HN.out.trans (by first | rfl | (simp [*];done) | (simp [*];omega))).symm,HB0.out⟩
end Go.Proofs.YtgkclnmmjedmkaaGreat
