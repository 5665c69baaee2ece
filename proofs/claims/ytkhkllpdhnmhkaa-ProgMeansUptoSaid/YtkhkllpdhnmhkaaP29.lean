/- heronref05.Name: both cases. -/
import Derived.Deep.CutRange
import Derived.Test.YtkhkllpdhnmhkaaP24
import Derived.Test.YtkhkllpdhnmhkaaP28
namespace Go.Proofs.Ytkhkllpdhnmhkaa
open Go.RowKit Tr
theorem bool_eq {a b:Bool} (h:a=b):Value.bool a=Value.bool b:=by rw [h]
def namesTo (s:ByteArray) (i:Nat):Bool:=wordsTo s i && (decide (i=0) || !digitB (s.data.toList.getD 0 0))
theorem names_step {s:ByteArray} {i:Nat} (h:i < s.size) (hi:namesTo s i=true):namesTo s (i+1)=(letterB (s[i]'h) || (digitB (s[i]'h) && !decide (i=0))):=by
 unfold namesTo at hi ⊢
 rw [zzc] at hi
 rw [words_step h,hi.1,Bool.true_and]
 have e:decide (i+1=0)=false:=decide_eq_false (by omega)
 rw [e,Bool.false_or]
 have hld:letterB (s[i]'h)=true→digitB (s[i]'h)=false:=by
  unfold letterB digitB
  intro g
  simp only [decide_eq_true_eq,Bool.or_eq_true,zzc,beq_iff_eq] at g
  rw [Bool.and_eq_false_iff,decide_eq_false_iff_not,decide_eq_false_iff_not]
  omega
 by_cases h0:i=0
 ·subst h0
  rw [name_head h]
  cases hl:letterB (s[0]'h) with
  | true=>rw [hld hl];rfl
  | false=>cases digitB (s[0]'h) <;> rfl
 ·have e2:decide (i=0)=false:=decide_eq_false h0
  rw [e2] at hi ⊢
  have:=hi.2
  rw [Bool.false_or] at this
  rw [this]
  cases letterB (s[i]'h) <;> cases digitB (s[i]'h) <;> rfl
theorem names_no {s:ByteArray} {i:Nat} (hi0:0 < i) (his:i≤s.size) (h:namesTo s i=false):nameB s=false:=by
 unfold namesTo at h
 rw [Bool.and_eq_false_iff] at h
 rcases h with h | h
 ·exact words_no h
 ·have e:decide (i=0)=false:=decide_eq_false (by omega)
  rw [e,Bool.false_or] at h
  unfold nameB
  rw [h,Bool.and_false]
theorem names_end {s:ByteArray} (h:namesTo s s.size=true) (h1:1≤s.size) (h2:s.size≤32):nameB s=true:=by
 unfold namesTo at h
 rw [zzc] at h
 have e:decide (s.size=0)=false:=decide_eq_false (by omega)
 rw [e,Bool.false_or] at h
 rw [name_end h.1,decide_eq_true h1,decide_eq_true h2,h.2];rfl
theorem names_nil (s:ByteArray):namesTo s 0=true:=by simp [namesTo,wordsTo]
theorem names_size {s:ByteArray} (h:¬(1≤s.size∧s.size≤32)):nameB s=false:=by
 unfold nameB
 by_cases h1:1≤s.size
 ·rw [decide_eq_false (show ¬s.size≤32 from fun h2=>h ⟨h1,h2⟩)];simp
 ·rw [decide_eq_false h1];simp
set_option maxRecDepth 100000 in
set_option maxHeartbeats 2000000 in
theorem rName_any (s:ByteArray) (w:World) (hs:s.size≤1048576) :
  Calls Try.prog 80 #[.string s] w fun e w'=>e=.returned (.bool (nameB s))∧w=w':=by
 by_cases h1:s.size < 1
 ·have hn:=names_size (s:=s) (by omega)
  have h1a:(s.size:Int) < 1:=by omega
  rw [hn]
  clear hn
  go_enter Try.func80,Try.ntmps80
  go_wp2_with fail
  go_ret
  exact ⟨rfl,rfl⟩
 ·by_cases h2:32 < s.size
  ·have hn:=names_size (s:=s) (by omega)
   have h1a:¬(s.size:Int) < 1:=by omega
   have h2a:(32:Int) < (s.size:Int):=by omega
   rw [hn]
   clear hn
   go_enter Try.func80,Try.ntmps80
   go_wp2_with fail
   go_ret
   exact ⟨rfl,rfl⟩
  ·have h1a:¬(s.size:Int) < 1:=by omega
   have h2a:¬(32:Int) < (s.size:Int):=by omega
   obtain ⟨res,hres⟩:∃ b,b=nameB s:=⟨_,rfl⟩
   rw [←hres]
   have HRES:=zzA hres
   clear hres
   go_enter Try.func80,Try.ntmps80
   go_wp2_with fail
   go_loopw [3] (fun iv wr=>∃ i:Nat,i≤s.size∧iv=.int .i64 (i:Int)∧namesTo s i=true∧w=wr) (fun iv _=>s.size - (intOf iv).toNat)
   case atStart=>exact ⟨0,zzZ _,rfl,names_nil s,rfl⟩
   case round =>
    obtain ⟨i,hi,rfl,ht,rfl⟩:=hrel
    have HT:=zzA ht
    clear ht
    by_cases hlt:i < s.size
    ·have hlt2:(i:Int) < (s.size:Int):=by omega
     have hst:=names_step hlt HT.out
     obtain ⟨c,hc⟩:∃ c,c=s[i]'hlt:=⟨_,rfl⟩
     have hc2:=hc
     have hcn:=UInt8.toNat_lt c
     rw [←hc] at hst
     obtain ⟨lb,hlb⟩:∃ b,b=letterB c:=⟨_,rfl⟩
     obtain ⟨db,hdb⟩:∃ b,b=digitB c:=⟨_,rfl⟩
     rw [←hlb,←hdb] at hst
     have HLB:=zzA hlb
     have HDB:=zzA hdb
     have HST:=zzA hst
     clear hst hlb hdb hc2
     go_upto_region 7 with (fail)
     rw [←hc]
     clear hc
     go_cut [5] from 15 to 57 (fun s5 w'=>s5=.bool lb∧w'=w)
     case first =>
      go_wp2_with fail
      all_goals go_meet
      all_goals exact ⟨bool_eq (HLB.out.symm ▸ (by unfold letterB;rw [Bool.eq_iff_iff];simp;omega)),rfl⟩
     case rest =>
      obtain ⟨rfl,rfl⟩:=hcut
      go_upto_region 8 with (fail)
      go_cut [6] from 15 to 57 (fun s6 w'=>s6=.bool db∧w'=wc)
      case first =>
       go_wp2_with fail
       all_goals go_meet
       all_goals exact ⟨bool_eq (HDB.out.symm ▸ (by unfold digitB;rw [Bool.eq_iff_iff];simp;omega)),rfl⟩
      case rest =>
       obtain ⟨rfl,rfl⟩:=hcut
       have hi0:decide (i=0)=((i:Int)==0):=by rw [Bool.eq_iff_iff];simp
       obtain ⟨zb,hzb⟩:∃ b,((i:Int)==0)=b:=⟨_,rfl⟩
       have hst:=HST.out
       rw [hi0,hzb] at hst
       have HST:=zzA hst
       clear hst hi0 hcn
       cases lb <;> cases db <;> cases zb
       all_goals go_wp2_with fail
       all_goals first
        | (go_roundw
           case rel=>exact ⟨i+1,by omega,by go_num,HST.out,by trivial⟩
           case measure=>simp [intOf];omega)
        | (go_ret
           exact ⟨ret_bool (HRES.out.trans (names_no (Nat.succ_pos i) hlt HST.out)).symm,rfl⟩)
    ·obtain rfl:i=s.size:=by omega
     have hlt2:¬((s.size:Int) < (s.size:Int)):=by omega
     have hne:=names_end HT.out (by omega) (by omega)
     have HNE:=zzA (HRES.out.trans hne)
     clear hne
     go_wp2_with fail
     go_ret
     exact ⟨ret_bool HNE.out.symm,rfl⟩
end Go.Proofs.Ytkhkllpdhnmhkaa
namespace Go.Proofs.Ytkhkllpdhnmhkaa
open Go.RowKit Tr
theorem ref_ways (k:Int) (r:List (Int × Int)) (a:Int) (q:Nat) (n m:Int) (z:Bool) (i:Int) (s:ByteArray) :
  ((k==1)=true→nodeF k r a q n m z i s=bareB false false false false false r a q n m z i s) ∧
  ((k==2)=true→nodeF k r a q n m z i s=(rightB r && bareB true false false false false r a q n m z i s)) ∧
  ((k==3)=true→nodeF k r a q n m z i s=(assertB a && bareB false true false false false r a q n m z i s)) ∧
  ((k==4)=true→nodeF k r a q n m z i s=(decide ((2:Int)≤(q:Int)) && bareB false false true false false r a q n m z i s)) ∧
  ((k==5)=true→nodeF k r a q n m z i s=(decide ((2:Int)≤(q:Int)) && bareB false false true false false r a q n m z i s)) ∧
  ((k==6)=true→nodeF k r a q n m z i s=(((q:Int)==1) && (decide (0≤n) && (decide (n≤1000) && (((m==-1) || (decide (n≤m) && decide (m≤1000))) && bareB false false true true false r a q n m z i s))))) ∧
  ((k==7)=true→nodeF k r a q n m z i s=(((q:Int)==1) && (decide (1≤i) && (decide (i≤500) && ((s.toList.isEmpty || nameB s) && bareB false false true false true r a q n m z i s))))):=by
 obtain ⟨g1,g2,g3,g4,g5,g6,g7,-⟩:=node_ways k r a q n m z i s rfl rfl rfl
 rw [←asS_list] at g3
 unfold bareB
 refine ⟨fun h=>?_,fun h=>?_,fun h=>?_,fun h=>?_,fun h=>?_,fun h=>?_,fun h=>?_⟩
 ·rw [g1 h]
  generalize ((r.length:Int)==0)=x1,(a==0)=x2,(n==0)=x3,(m==0)=x4,(i==0)=x5,s.toList.isEmpty=x6,((q:Int)==0)=x7
  cases x1 <;> cases x2 <;> cases x3 <;> cases x4 <;> cases z <;> cases x5 <;> cases x6 <;> cases x7 <;> rfl
 ·rw [g2 h]
  generalize (a==0)=x2,(n==0)=x3,(m==0)=x4,(i==0)=x5,s.toList.isEmpty=x6,((q:Int)==0)=x7,rightB r=x8
  cases x2 <;> cases x3 <;> cases x4 <;> cases z <;> cases x5 <;> cases x6 <;> cases x7 <;> cases x8 <;> rfl
 ·rw [g3 h]
  generalize ((r.length:Int)==0)=x2,(n==0)=x3,(m==0)=x4,(i==0)=x5,s.toList.isEmpty=x6,((q:Int)==0)=x7,assertB a=x8
  cases x2 <;> cases x3 <;> cases x4 <;> cases z <;> cases x5 <;> cases x6 <;> cases x7 <;> cases x8 <;> rfl
 ·rw [g4 h]
  generalize ((r.length:Int)==0)=x1,(a==0)=x2,(n==0)=x3,(m==0)=x4,(i==0)=x5,s.toList.isEmpty=x6,decide ((2:Int)≤(q:Int))=x7
  cases x1 <;> cases x2 <;> cases x3 <;> cases x4 <;> cases z <;> cases x5 <;> cases x6 <;> cases x7 <;> rfl
 ·rw [g5 h]
  generalize ((r.length:Int)==0)=x1,(a==0)=x2,(n==0)=x3,(m==0)=x4,(i==0)=x5,s.toList.isEmpty=x6,decide ((2:Int)≤(q:Int))=x7
  cases x1 <;> cases x2 <;> cases x3 <;> cases x4 <;> cases z <;> cases x5 <;> cases x6 <;> cases x7 <;> rfl
 ·rw [g6 h]
  generalize ((r.length:Int)==0)=x1,(a==0)=x2,(i==0)=x5,s.toList.isEmpty=x6,((q:Int)==1)=x7,((m==-1) || (decide (n≤m) && decide (m≤1000)))=x8,decide (0≤n)=x3,decide (n≤1000)=x4
  cases x1 <;> cases x2 <;> cases x3 <;> cases x4 <;> cases x5 <;> cases x6 <;> cases x7 <;> cases x8 <;> rfl
 ·rw [g7 h]
  generalize ((r.length:Int)==0)=x1,(a==0)=x2,(n==0)=x3,(m==0)=x4,((q:Int)==1)=x7,(s.toList.isEmpty || nameB s)=x8,decide (1≤i)=x5,decide (i≤500)=x6
  cases x1 <;> cases x2 <;> cases x3 <;> cases x4 <;> cases z <;> cases x5 <;> cases x6 <;> cases x7 <;> cases x8 <;> rfl
set_option maxRecDepth 100000 in
set_option maxHeartbeats 4000000 in
theorem rnode_any (t:Ta) (S:Nat→Prop) (w:World) (h:RT w S t) (hS:∀ b,S b→b < w.heap.size) :
  Calls Try.prog 68 #[t.val] w fun e w'=>e=.returned (.bool (nodeB t.tr))∧Below w.heap.size w w':=by
 cases t with
 | mk k r ra rc ast l sa sc mn mx z ix nm =>
 have hnw:=ref_ways k r ast l.length mn mx z ix nm
 have hn0:=(node_ways k r ast l.length mn mx z ix nm rfl rfl rfl).2.2.2.2.2.2.2
 have hnb:nodeB (Ta.mk k r ra rc ast l sa sc mn mx z ix nm).tr=nodeF k r ast l.length mn mx z ix nm:=by rw [Ta.tr,nodeB,trs_length]
 rw [hnb]
 clear hnb
 obtain ⟨⟨hR,hrl,hll,hnm⟩,-,-⟩:=h.parts
 have HNW:=zzA hnw
 have HN0:=zzA hn0
 have hb0:Below w.heap.size w (w.alloc (.cells #[.int .i64 k,.slice ra r.length rc,.int .i64 ast,.slice sa l.length sc,.int .i64 mn,.int .i64 mx,.bool z,.int .i64 ix,.string nm] 25)):=(zzb _ _).alloc (zzF _) _
 have HRT:=zzA (refRight_any ra r.length rc w.heap.size r (w.alloc (.cells #[.int .i64 k,.slice ra r.length rc,.int .i64 ast,.slice sa l.length sc,.int .i64 mn,.int .i64 mx,.bool z,.int .i64 ix,.string nm] 25)) ((hR.reads hS).below hb0))
 have HB0:=zzA hb0
 have HBR:=zzA (fun f1 f2 f3 f4 f5 hf u=>bare_any f1 f2 f3 f4 f5 hf k r ra rc ast l sa sc mn mx z ix nm u hrl hll)
 obtain ⟨res,hres⟩:∃ b,b=nodeF k r ast l.length mn mx z ix nm:=⟨_,rfl⟩
 rw [←hres] at HNW HN0 ⊢
 clear hnw hn0 hres h hR hS hb0
 have hways:(k==1)=true∨((k==1)=false∧(k==2)=true)∨((k==1)=false∧(k==2)=false∧(k==3)=true)∨((k==1)=false∧(k==2)=false∧(k==3)=false∧(k==4)=true∧(k==5)=false)∨((k==1)=false∧(k==2)=false∧(k==3)=false∧(k==4)=false∧(k==5)=true)∨((k==1)=false∧(k==2)=false∧(k==3)=false∧(k==4)=false∧(k==5)=false∧(k==6)=true)∨((k==1)=false∧(k==2)=false∧(k==3)=false∧(k==4)=false∧(k==5)=false∧(k==6)=false∧(k==7)=true)∨((k==1)=false∧(k==2)=false∧(k==3)=false∧(k==4)=false∧(k==5)=false∧(k==6)=false∧(k==7)=false):=by
  simp only [beq_iff_eq,beq_eq_false_iff_ne];omega
 simp only [Ta.val,Ta.vals] at HBR ⊢
 rcases hways with h1 | ⟨h1,h2⟩ | ⟨h1,h2,h3⟩ | ⟨h1,h2,h3,h4,h5⟩ | ⟨h1,h2,h3,h4,h5⟩ | ⟨h1,h2,h3,h4,h5,h6⟩ | ⟨h1,h2,h3,h4,h5,h6,h7⟩ | ⟨h1,h2,h3,h4,h5,h6,h7⟩
 ·have hn:=HNW.out.1 h1
  clear HNW HN0
  have hbr:=fun u=>zzA (HBR.out false false false false false (by simp) u)
  obtain ⟨bb,hbb⟩:∃ b,b=bareB false false false false false r ast l.length mn mx z ix nm:=⟨_,rfl⟩
  rw [←hbb] at hn
  simp only [←hbb] at hbr
  clear hbb
  have HN:=zzA hn
  clear hn
  all_goals go_enter Try.func68,Try.ntmps68
  all_goals go_wp2_with (go_at_call 78;refine (hbr _).out.mono ?_;rintro e w4 ⟨rfl,hb4⟩;have HB4:=zzA hb4;clear hb4;simp only [])
  all_goals go_ret
  all_goals first
   | exact ⟨ret_bool (HN.out.trans (by first | rfl | (simp [*];done) | (simp [*];omega))).symm,HB0.out.trans (HB4.out.mono HB0.out.size)⟩
   | exact ⟨ret_bool (HN.out.trans (by first | rfl | (simp [*];done) | (simp [*];omega))).symm,HB0.out⟩
 ·have hn:=HNW.out.2.1 h2
  clear HNW HN0
  have hbr:=fun u=>zzA (HBR.out true false false false false (by simp) u)
  obtain ⟨bb,hbb⟩:∃ b,b=bareB true false false false false r ast l.length mn mx z ix nm:=⟨_,rfl⟩
  rw [←hbb] at hn
  simp only [←hbb] at hbr
  clear hbb
  obtain ⟨b0,hb0⟩:∃ b,rightB r=b:=⟨_,rfl⟩
  simp only [hb0] at hn
  have HN:=zzA hn
  clear hn
  cases b0
  all_goals go_enter Try.func68,Try.ntmps68
  all_goals go_wp2_with (first | (go_at_call 35;refine HRT.out.mono ?_;rintro e w3 ⟨rfl,mm,rfl⟩;simp only [hb0]) | (go_at_call 78;refine (hbr _).out.mono ?_;rintro e w4 ⟨rfl,hb4⟩;have HB4:=zzA hb4;clear hb4;simp only []))
  all_goals go_ret
  all_goals first
   | exact ⟨ret_bool (HN.out.trans (by first | rfl | (simp [*];done) | (simp [*];omega))).symm,(bdrewN HB0.out mm).trans (HB4.out.mono (bdrewN HB0.out mm).size)⟩
   | exact ⟨ret_bool (HN.out.trans (by first | rfl | (simp [*];done) | (simp [*];omega))).symm,(bdrewN HB0.out mm)⟩
 ·have hn:=HNW.out.2.2.1 h3
  clear HNW HN0
  have hbr:=fun u=>zzA (HBR.out false true false false false (by simp) u)
  obtain ⟨bb,hbb⟩:∃ b,b=bareB false true false false false r ast l.length mn mx z ix nm:=⟨_,rfl⟩
  rw [←hbb] at hn
  simp only [←hbb] at hbr
  clear hbb
  obtain ⟨b0,hb0⟩:∃ b,assertB ast=b:=⟨_,rfl⟩
  simp only [hb0] at hn
  have HN:=zzA hn
  clear hn
  cases b0
  all_goals go_enter Try.func68,Try.ntmps68
  all_goals go_wp2_with (first | (go_at_call 79;refine (rAssertion_any ast _).mono ?_;rintro e w3 ⟨rfl,rfl⟩;simp only [hb0]) | (go_at_call 78;refine (hbr _).out.mono ?_;rintro e w4 ⟨rfl,hb4⟩;have HB4:=zzA hb4;clear hb4;simp only []))
  all_goals go_ret
  all_goals first
   | exact ⟨ret_bool (HN.out.trans (by first | rfl | (simp [*];done) | (simp [*];omega))).symm,HB0.out.trans (HB4.out.mono HB0.out.size)⟩
   | exact ⟨ret_bool (HN.out.trans (by first | rfl | (simp [*];done) | (simp [*];omega))).symm,HB0.out⟩
 ·have hn:=HNW.out.2.2.2.1 h4
  clear HNW HN0
  have hbr:=fun u=>zzA (HBR.out false false true false false (by simp) u)
  obtain ⟨bb,hbb⟩:∃ b,b=bareB false false true false false r ast l.length mn mx z ix nm:=⟨_,rfl⟩
  rw [←hbb] at hn
  simp only [←hbb] at hbr
  clear hbb
  have HN:=zzA hn
  clear hn
  all_goals go_enter Try.func68,Try.ntmps68
  all_goals go_wp2_with (go_at_call 78;refine (hbr _).out.mono ?_;rintro e w4 ⟨rfl,hb4⟩;have HB4:=zzA hb4;clear hb4;simp only [])
  all_goals go_ret
  all_goals first
   | exact ⟨ret_bool (HN.out.trans (by first | rfl | (simp [*];done) | (simp [*];omega))).symm,HB0.out.trans (HB4.out.mono HB0.out.size)⟩
   | exact ⟨ret_bool (HN.out.trans (by first | rfl | (simp [*];done) | (simp [*];omega))).symm,HB0.out⟩
 ·have hn:=HNW.out.2.2.2.2.1 h5
  clear HNW HN0
  have hbr:=fun u=>zzA (HBR.out false false true false false (by simp) u)
  obtain ⟨bb,hbb⟩:∃ b,b=bareB false false true false false r ast l.length mn mx z ix nm:=⟨_,rfl⟩
  rw [←hbb] at hn
  simp only [←hbb] at hbr
  clear hbb
  have HN:=zzA hn
  clear hn
  all_goals go_enter Try.func68,Try.ntmps68
  all_goals go_wp2_with (go_at_call 78;refine (hbr _).out.mono ?_;rintro e w4 ⟨rfl,hb4⟩;have HB4:=zzA hb4;clear hb4;simp only [])
  all_goals go_ret
  all_goals first
   | exact ⟨ret_bool (HN.out.trans (by first | rfl | (simp [*];done) | (simp [*];omega))).symm,HB0.out.trans (HB4.out.mono HB0.out.size)⟩
   | exact ⟨ret_bool (HN.out.trans (by first | rfl | (simp [*];done) | (simp [*];omega))).symm,HB0.out⟩
 ·have hn:=HNW.out.2.2.2.2.2.1 h6
  clear HNW HN0
  have hbr:=fun u=>zzA (HBR.out false false true true false (by simp) u)
  obtain ⟨bb,hbb⟩:∃ b,b=bareB false false true true false r ast l.length mn mx z ix nm:=⟨_,rfl⟩
  rw [←hbb] at hn
  simp only [←hbb] at hbr
  clear hbb
  obtain ⟨b0,hb0⟩:∃ b,((l.length:Int)==1)=b:=⟨_,rfl⟩
  obtain ⟨b1,hb1⟩:∃ b,(mx==-1)=b:=⟨_,rfl⟩
  simp only [hb0,hb1] at hn
  have HN:=zzA hn
  clear hn
  cases b0 <;> cases b1
  all_goals go_enter Try.func68,Try.ntmps68
  all_goals go_wp2_with (go_at_call 78;refine (hbr _).out.mono ?_;rintro e w4 ⟨rfl,hb4⟩;have HB4:=zzA hb4;clear hb4;simp only [])
  all_goals go_ret
  all_goals first
   | exact ⟨ret_bool (HN.out.trans (by first | rfl | (simp [*];done) | (simp [*];omega))).symm,HB0.out.trans (HB4.out.mono HB0.out.size)⟩
   | exact ⟨ret_bool (HN.out.trans (by first | rfl | (simp [*];done) | (simp [*];omega))).symm,HB0.out⟩
 ·have hn:=HNW.out.2.2.2.2.2.2 h7
  clear HNW HN0
  have hbr:=fun u=>zzA (HBR.out false false true false true (by simp) u)
  obtain ⟨bb,hbb⟩:∃ b,b=bareB false false true false true r ast l.length mn mx z ix nm:=⟨_,rfl⟩
  rw [←hbb] at hn
  simp only [←hbb] at hbr
  clear hbb
  obtain ⟨b0,hb0⟩:∃ b,((l.length:Int)==1)=b:=⟨_,rfl⟩
  obtain ⟨b1,hb1⟩:∃ b,nm.toList.isEmpty=b:=⟨_,rfl⟩
  obtain ⟨b2,hb2⟩:∃ b,nameB nm=b:=⟨_,rfl⟩
  simp only [hb0,hb1,hb2] at hn
  have HN:=zzA hn
  clear hn
  cases b0 <;> cases b1 <;> cases b2
  all_goals go_enter Try.func68,Try.ntmps68
  all_goals go_wp2_with (first | (go_at_call 80;refine (rName_any nm _ hnm).mono ?_;rintro e w3 ⟨rfl,rfl⟩;simp only [hb2]) | (go_at_call 78;refine (hbr _).out.mono ?_;rintro e w4 ⟨rfl,hb4⟩;have HB4:=zzA hb4;clear hb4;simp only []))
  all_goals go_ret
  all_goals first
   | exact ⟨ret_bool (HN.out.trans (by first | rfl | (simp [*];done) | (simp [*];omega))).symm,HB0.out.trans (HB4.out.mono HB0.out.size)⟩
   | exact ⟨ret_bool (HN.out.trans (by first | rfl | (simp [*];done) | (simp [*];omega))).symm,HB0.out⟩
 ·have hn:=HN0.out h1 h2 h3 h4 h5 h6 h7
  clear HNW HN0
  have HN:=zzA hn
  clear hn
  all_goals go_enter Try.func68,Try.ntmps68
  all_goals go_wp2_with fail
  all_goals go_ret
  all_goals first
   | exact ⟨ret_bool (HN.out.trans (by first | rfl | (simp [*];done) | (simp [*];omega))).symm,HB0.out.trans (HB4.out.mono HB0.out.size)⟩
   | exact ⟨ret_bool (HN.out.trans (by first | rfl | (simp [*];done) | (simp [*];omega))).symm,HB0.out⟩
end Go.Proofs.Ytkhkllpdhnmhkaa
