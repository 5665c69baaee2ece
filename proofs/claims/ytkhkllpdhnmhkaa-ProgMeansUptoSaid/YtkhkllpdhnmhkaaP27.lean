/- printer.name, printer.assertion: both cases. -/
import Derived.BigQuiet
import Derived.Deep.QuietTactic
import Derived.Handy
import Derived.Test.YtkhkllpdhnmhkaaP00
import Derived.Test.YtkhkllpdhnmhkaaP01
import Derived.Test.YtkhkllpdhnmhkaaP02
import Derived.Test.YtkhkllpdhnmhkaaP05
import Derived.Test.YtkhkllpdhnmhkaaP08
import Derived.Test.YtkhkllpdhnmhkaaP09
import Derived.Test.YtkhkllpdhnmhkaaP24
namespace Go.Proofs.Ytkhkllpdhnmhkaa
open Go.RowKit Tr
def asS (n:Int):ByteArray:=if (n==1)=true then ⟨#[92,65]⟩ else if (n==2)=true then ⟨#[92,122]⟩ else if (n==4)=true then ⟨#[94]⟩ else if (n==8)=true then ⟨#[36]⟩ else if (n==16)=true then ⟨#[92,98]⟩ else if (n==32)=true then ⟨#[92,66]⟩ else ⟨#[]⟩
set_option maxRecDepth 100000 in
set_option maxHeartbeats 1000000 in
theorem assertion_any (n:Int) (w:World) :
  Calls Try.prog 81 #[.int .i64 n] w fun e w'=>e=.returned (.string (asS n))∧w=w':=by
 go_enter Try.func81,Try.ntmps81
 go_wp2_with fail
 all_goals go_ret
 all_goals exact ⟨by simp only [asS, *];rfl,rfl⟩
theorem wordB (c:UInt8):word (wrap64 (c.toNat:Int))=(letterB c || digitB c):=by
 have h:=UInt8.toNat_lt c
 have e:wrap64 (c.toNat:Int)=(c.toNat:Int):=by unfold wrap64;omega
 rw [e]
 unfold word letterB digitB
 rw [Bool.eq_iff_iff]
 simp only [decide_eq_true_eq,Bool.or_eq_true,zzc,beq_iff_eq]
 omega
def wordsTo (s:ByteArray) (i:Nat):Bool:=(s.data.toList.take i).all fun c=>letterB c || digitB c
theorem words_step {s:ByteArray} {i:Nat} (h:i < s.size):wordsTo s (i+1)=(wordsTo s i && (letterB (s[i]'h) || digitB (s[i]'h))):=by
 unfold wordsTo
 rw [List.take_add_one,List.all_append]
 have e:s.data.toList[i]?=some (s[i]'h):=by
  rw [Array.getElem?_toList,Array.getElem?_eq_getElem h];rfl
 rw [e]
 simp
theorem words_no {s:ByteArray} {i:Nat} (h:wordsTo s i=false):nameB s=false:=by
 unfold nameB
 have:(s.data.toList.all fun c=>letterB c || digitB c)=false:=by
  cases hh:s.data.toList.all fun c=>letterB c || digitB c with
  | false=>rfl
  | true =>
   rw [←h];symm
   unfold wordsTo
   rw [List.all_eq_true] at hh ⊢
   exact fun c hc=>hh c (List.mem_of_mem_take hc)
 rw [this];simp
theorem name_end {s:ByteArray} (h:wordsTo s s.size=true):nameB s=(decide (1≤s.size) && (decide (s.size≤32) && !(digitB (s.data.toList.getD 0 0)))):=by
 unfold nameB
 have:(s.data.toList.all fun c=>letterB c || digitB c)=true:=by
  unfold wordsTo at h
  rwa [List.take_of_length_le (by rw [Array.length_toList];exact zzF _)] at h
 rw [this,Bool.and_true,Bool.and_assoc]
theorem name_head {s:ByteArray} (h:0 < s.size):s.data.toList.getD 0 0=s[0]'h:=by
 rw [List.getD_eq_getElem?_getD,Array.getElem?_toList,Array.getElem?_eq_getElem h];rfl
set_option maxRecDepth 100000 in
set_option maxHeartbeats 1000000 in
theorem name_any (s:ByteArray) (w:World) (hs:s.size≤1048576) :
  Calls Try.prog 82 #[.string s] w fun e w'=>e=.returned (.bool (nameB s))∧w=w':=by
 go_enter Try.func82,Try.ntmps82
 go_wp2_with fail
 go_loopw [6] (fun iv wr=>∃ i:Nat,i≤s.size∧iv=.int .i64 (i:Int)∧wordsTo s i=true∧wr=w) (fun iv _=>s.size - (intOf iv).toNat)
 case atStart=>exact ⟨0,zzZ _,rfl,by simp [wordsTo],rfl⟩
 case round =>
  obtain ⟨i,hi,rfl,ht,rfl⟩:=hrel
  have HT:=zzA ht
  clear ht
  by_cases hlt:i < s.size
  ·have hlt2:(i:Int) < (s.size:Int):=by omega
   have hst:=words_step hlt
   rw [HT.out,Bool.true_and,←wordB] at hst
   obtain ⟨b,hb⟩:∃ b,b=word (wrap64 ((s[i]'hlt).toNat:Int)):=⟨_,rfl⟩
   rw [←hb] at hst
   have HW:=zzA (word_any (wrap64 ((s[i]'hlt).toNat:Int)))
   rw [←hb] at HW
   clear hb
   have HST:=zzA hst
   clear hst
   cases b with
   | true =>
    go_wp2_with (go_at_call 83;refine (HW.out wr).mono ?_;rintro e w2 ⟨rfl,rfl⟩;simp only [])
    go_roundw
    case rel=>exact ⟨i+1,by omega,by go_num,HST.out,by trivial⟩
    case measure=>simp [intOf];omega
   | false =>
    go_wp2_with (go_at_call 83;refine (HW.out wr).mono ?_;rintro e w2 ⟨rfl,rfl⟩;simp only [])
    go_ret
    exact ⟨ret_bool (words_no HST.out).symm,rfl⟩
  ·obtain rfl:i=s.size:=by omega
   have hlt2:¬((s.size:Int) < (s.size:Int)):=by omega
   have hne:=name_end HT.out
   by_cases h1:s.size=0
   ·have h1a:¬((1:Int)≤(s.size:Int)):=by omega
    have e1:decide (1≤s.size)=false:=decide_eq_false (by omega)
    rw [e1,Bool.false_and] at hne
    have HNE:=zzA hne
    clear hne e1
    go_wp2_with fail
    go_ret
    exact ⟨ret_bool HNE.out.symm,rfl⟩
   ·have h1a:(1:Int)≤(s.size:Int):=by omega
    have e1:decide (1≤s.size)=true:=decide_eq_true (by omega)
    have hpos:0 < s.size:=by omega
    rw [e1,Bool.true_and,name_head hpos] at hne
    by_cases h2:s.size≤32
    ·have h2a:(s.size:Int)≤32:=by omega
     have e2:decide (s.size≤32)=true:=by simp;omega
     rw [e2,Bool.true_and] at hne
     have hc:=UInt8.toNat_lt (s[0]'hpos)
     have HNE:=zzA hne
     clear h1 h2 hne e1 e2
     go_wp2_with fail
     all_goals go_ret
     all_goals exact ⟨ret_bool (HNE.out.trans (by unfold digitB;rw [Bool.eq_iff_iff];simp;omega)).symm,rfl⟩
    ·have h2a:¬((s.size:Int)≤32):=by omega
     have e2:decide (s.size≤32)=false:=by simp;omega
     rw [e2,Bool.false_and] at hne
     have HNE:=zzA hne
     clear h1 h2 hne e1 e2
     go_wp2_with fail
     go_ret
     exact ⟨ret_bool HNE.out.symm,rfl⟩
end Go.Proofs.Ytkhkllpdhnmhkaa
namespace Go.Proofs.Ytkhkllpdhnmhkaa
open Go.RowKit Tr
theorem rmul_sat {a N:Nat}:min (a*min N 1073741824+1) 1073741824=min (a*N+1) 1073741824:=by
 by_cases h:N≤1073741824
 ·rw [show min N 1073741824=N from by omega]
 ·rw [show min N 1073741824=1073741824 from by omega]
  rcases Nat.eq_zero_or_pos a with rfl | ha
  ·simp
  ·have h1:1073741824≤a*1073741824:=Nat.le_mul_of_pos_left _ ha
   have h2:1073741824≤a*N:=zzU (by omega) (Nat.le_mul_of_pos_left N ha)
   omega
theorem rmul_sat2 {a b N:Nat}:min (max 1 (a*min N 1073741824+b*(1+min N 1073741824))) 1073741824=min (max 1 (a*N+b*(1+N))) 1073741824:=by
 by_cases h:N≤1073741824
 ·rw [show min N 1073741824=N from by omega]
 ·rw [show min N 1073741824=1073741824 from by omega]
  by_cases hab:a=0∧b=0
  ·simp only [hab.1,hab.2,Nat.zero_mul]
  ·have h1:1073741824≤a*1073741824+b*(1+1073741824):=by
    rcases Nat.eq_zero_or_pos a with rfl | ha
    ·have hb:0 < b:=by omega
     rw [Nat.zero_mul,Nat.zero_add]
     exact zzU (by decide) (Nat.le_mul_of_pos_left (1+1073741824) hb)
    ·exact zzU (Nat.le_mul_of_pos_left 1073741824 ha) (Nat.le_add_right _ _)
   have h2:1073741824≤a*N+b*(1+N):=by
    have e1:a*1073741824≤a*N:=Nat.mul_le_mul_left _ (by omega)
    have e2:b*(1+1073741824)≤b*(1+N):=Nat.mul_le_mul_left _ (by omega)
    omega
   omega
set_option maxRecDepth 100000 in
set_option maxHeartbeats 2000000 in
theorem rsize_any:∀ (t:Ta) (S:Nat→Prop) (w:World),RT w S t→allB t.tr=true→(∀ b,S b→b < w.heap.size) →
  Calls Try.prog 24 #[t.val] w fun e w'=>e=.returned (.int .i64 ((min (uz t.tr) 1073741824:Nat):Int))∧Below w.heap.size w w':=by
 intro t
 induction t using Ta.ind with
 | h t ih =>
  intro S w h hall hS
  cases t with
  | mk k r ra rc ast l sa sc mn mx z ix nm =>
   obtain ⟨⟨-,-,hll,-⟩,hN,hL⟩:=h.parts
   have IH:=zzA ih
   have HN:=zzA hN
   have HL:=zzA hL
   have HS:=zzA hS
   clear ih hL hS h
   obtain ⟨hnb,hsb⟩:=(allB_iff _).1 hall
   rw [Ta.tr_subs] at hsb
   have HSB:=zzA (show ∀ u∈l,allB u.tr=true from fun u hu=>hsb _ (List.mem_map.2 ⟨u,hu,rfl⟩))
   have HNB:=zzA hnb
   clear hnb hsb hall
   obtain ⟨T,hT⟩:∃ T,T=min (uz (Ta.mk k r ra rc ast l sa sc mn mx z ix nm).tr) 1073741824:=⟨_,rfl⟩
   rw [←hT]
   have HT:=zzA hT
   clear hT
   simp only [Ta.val,Ta.vals]
   have hb0:Below w.heap.size w (w.alloc (.cells #[.int .i64 k,.slice ra r.length rc,.int .i64 ast,.slice sa l.length sc,.int .i64 mn,.int .i64 mx,.bool z,.int .i64 ix,.string nm] 25)):=(zzb _ _).alloc (zzF _) _
   have hbl:=Blk.new w 25 [.int .i64 k,.slice ra r.length rc,.int .i64 ast,.slice sa l.length sc,.int .i64 mn,.int .i64 mx,.bool z,.int .i64 ix,.string nm]
   have hsc:=hN.1
   have hsc2:=hN.2.1
   have HB0:=zzA hb0
   have HBL:=zzA hbl
   clear hb0 hbl hN
   go_enter Try.func24,Try.ntmps24
   go_wp2_with fail
   generalize (w.alloc (.cells #[.int .i64 k,.slice ra r.length rc,.int .i64 ast,.slice sa l.length sc,.int .i64 mn,.int .i64 mx,.bool z,.int .i64 ix,.string nm] 25))=w1 at *
   go_loopw [3,4] (fun lv iv wr=>∃ (i:Nat),i≤l.length∧iv=.int .i64 (i:Int)∧lv=.int .i64 ((min (uzs (trs (l.take i))) 1073741824:Nat):Int)∧Below w1.heap.size w1 wr) (fun _ iv _=>l.length - (intOf iv).toNat)
   case atStart=>exact ⟨0,zzZ _,rfl,by rw [List.take_zero,trs,uzs];rfl,zzb _ _⟩
   case round =>
    obtain ⟨i,hi,rfl,rfl,hb⟩:=hrel
    have HB:=zzA hb
    have HBW:=zzA (HBL.out.below hb HBL.out.lt)
    have r3:wr.cell? ⟨w.heap.size,3,none⟩=some (.slice sa l.length sc):=HBW.out.cell 3
    clear hb
    by_cases hlt:i < l.length
    ·have hlt2:(i:Int) < (l.length:Int):=by omega
     obtain ⟨b,off,rfl,hSb,_⟩:=HN.out.2.2.2.2 (by omega)
     obtain ⟨u,hu⟩:∃ u,l[i]?=some u:=⟨_,zzJ hlt⟩
     have hum:u∈l:=zzL hu
     have hbb:=HS.out b hSb
     have hbw:=HB0.out.trans (HB.out.mono HB0.out.size)
     have hcell:∀ j,j < 9→wr.cell? ⟨b,off+i*9+j,none⟩=u.vals[j]?:=fun j hj=>by
      rw [Nat.add_assoc,←HN.out.node hu hj]
      exact hbw.cell (p:=⟨b,off+(i*9+j),none⟩) hbb
     have hin:=IH.out u hum S wr ((HL.out u hum).below HS.out hbw) (HSB.out u hum) (fun b hb=>zzQ (HS.out b hb) hbw.size)
     have HST:=zzA (uzs_snoc hu)
     generalize uz u.tr=gu at *
     generalize uzs (trs (l.take i))=gq at *
     have hw1:IntKind.i64.wrap (((min gq 1073741824:Nat):Int)+((min gu 1073741824:Nat):Int))=((min gq 1073741824:Nat):Int)+((min gu 1073741824:Nat):Int):=by rw [IntKind.wrap_i64];omega
     cases u with
     | mk k' r' ra' rc' a' l' sa' sc' n' m' z' i' s' =>
     simp only [Ta.vals] at hcell
     simp only [Ta.val,Ta.vals] at hin
     have c0:=hcell 0 (by omega)
     have c1':=hcell 1 (by omega)
     have c2':=hcell 2 (by omega)
     have c3:=hcell 3 (by omega)
     have c4:=hcell 4 (by omega)
     have c5:=hcell 5 (by omega)
     have c6:=hcell 6 (by omega)
     have c7:=hcell 7 (by omega)
     have c8:=hcell 8 (by omega)
     simp only [zzR,zzX,Nat.add_zero] at c0 c1' c2' c3 c4 c5 c6 c7 c8
     have HIN:=zzA hin
     clear hin hcell hu hbw hum
     go_wp2_with (go_at_call 24;refine HIN.out.mono ?_;rintro e w2 ⟨rfl,hb2⟩;have HB2:=zzA hb2;clear hb2;simp only [])
     go_roundw
     case rel =>
      exact ⟨i+1,by omega,by go_num,by rw [HST.out];exact congrArg (Value.int .i64) (by split <;> omega),HB.out.trans (HB2.out.mono HB.out.size)⟩
     case measure=>simp [intOf];omega
    ·obtain rfl:i=l.length:=by omega
     have hlt2:¬((l.length:Int) < (l.length:Int)):=by omega
     rw [List.take_length] at *
     have hBW:=zzA (HB0.out.trans (HB.out.mono HB0.out.size))
     have z0:wr.cell? ⟨w.heap.size,0,none⟩=some (.int .i64 k):=HBW.out.cell 0
     have z4:wr.cell? ⟨w.heap.size,4,none⟩=some (.int .i64 mn):=HBW.out.cell 4
     have z5:wr.cell? ⟨w.heap.size,5,none⟩=some (.int .i64 mx):=HBW.out.cell 5
     have ht:=HT.out
     unfold Ta.tr uz at ht
     obtain ⟨N,hN⟩:∃ N,N=uzs (trs l):=⟨_,rfl⟩
     have HNN:=zzA hN
     rw [←hN] at ht ⊢
     have hm2:min N 1073741824≤1073741824:=Nat.min_le_right _ _
     clear hN
     have hnb:=HNB.out
     unfold Ta.tr nodeB at hnb
     by_cases hk:k=6
     ·subst hk
      unfold nodeF at hnb
      simp only [reduceIte,Int.reduceEq,zzc,Bool.or_eq_true,decide_eq_true_eq,beq_iff_eq] at hnb
      obtain ⟨-,-,hn0,hn1,hmx⟩:=hnb
      rw [if_neg (by simp)] at ht
      obtain ⟨m0,rfl⟩:∃ m0:Nat,mn=(m0:Int):=⟨mn.toNat,by omega⟩
      obtain ⟨b,hb⟩:∃ b:Nat,b=min N 1073741824:=⟨_,rfl⟩
      by_cases hm:mx=-1
      ·subst hm
       rw [if_pos rfl,←rmul_sat,←hb,Int.toNat_natCast] at ht
       rw [←hb]
       by_cases hm1:m0=0
       ·subst hm1
        obtain ⟨v,hv⟩:∃ v:Int,v=1+(b:Int):=⟨_,rfl⟩
        have hw1:IntKind.i64.wrap (1+(b:Int))=v:=by rw [IntKind.wrap_i64];omega
        have HV:=zzA hv
        have ht2:T=min (b+1) 1073741824:=by rw [show max 0 1=1 from rfl,Nat.one_mul] at ht;exact ht
        have HTT:=zzA ht2
        clear hb hm2 ht ht2 hv
        go_wp2_with fail
        all_goals go_ret
        all_goals exact ⟨congrArg (fun z=>Ending.returned (Value.int .i64 z)) (by have:=HTT.out;have:=HV.out;first | omega | (split <;> omega)),hBW.out⟩
       ·have hm3:((m0:Int)==0)=false:=beq_eq_false_iff_ne.2 (by omega)
        obtain ⟨p,hp⟩:∃ p:Nat,p=m0*b:=⟨_,rfl⟩
        have hpb:p≤1000*1073741824:=hp ▸ Nat.mul_le_mul (by omega) (by omega)
        rw [show max m0 1=m0 from by omega,←hp] at ht
        have hw1:IntKind.i64.wrap ((m0:Int)*(b:Int))=(p:Int):=by rw [show (m0:Int)*(b:Int)=(p:Int) from by rw [hp];simp,IntKind.wrap_i64];omega
        obtain ⟨v,hv⟩:∃ v:Int,v=(p:Int)+1:=⟨_,rfl⟩
        have hw2:IntKind.i64.wrap ((p:Int)+1)=v:=by rw [IntKind.wrap_i64];omega
        have HV:=zzA hv
        have HTT:=zzA ht
        clear hb hm2 hp ht hm1 hv
        go_wp2_with fail
        all_goals go_ret
        all_goals exact ⟨congrArg (fun z=>Ending.returned (Value.int .i64 z)) (by have:=HTT.out;have:=HV.out;first | omega | (split <;> omega)),hBW.out⟩
      ·rcases hmx with hmx | hmx
       ·exact absurd hmx hm
       obtain ⟨m1,rfl⟩:∃ m1:Nat,mx=(m1:Int):=⟨mx.toNat,by omega⟩
       rw [if_neg hm,←rmul_sat2,←hb,Int.toNat_natCast] at ht
       rw [←hb]
       obtain ⟨d,hd⟩:∃ d:Nat,(m1:Int) - (m0:Int)=(d:Int):=⟨((m1:Int) - (m0:Int)).toNat,by omega⟩
       rw [hd,Int.toNat_natCast] at ht
       obtain ⟨p,hp⟩:∃ p:Nat,p=m0*b:=⟨_,rfl⟩
       obtain ⟨q,hq⟩:∃ q:Nat,q=d*(1+b):=⟨_,rfl⟩
       have hpb:p≤1000*1073741824:=hp ▸ Nat.mul_le_mul (by omega) (by omega)
       have hqb:q≤1000*(1+1073741824):=hq ▸ Nat.mul_le_mul (by omega) (by omega)
       rw [←hp,←hq] at ht
       have hw1:IntKind.i64.wrap ((m0:Int)*(b:Int))=(p:Int):=by rw [show (m0:Int)*(b:Int)=(p:Int) from by rw [hp];simp,IntKind.wrap_i64];omega
       have hw2:IntKind.i64.wrap ((m1:Int) - (m0:Int))=(d:Int):=by rw [hd,IntKind.wrap_i64];omega
       have hw3:IntKind.i64.wrap (1+(b:Int))=1+(b:Int):=by rw [IntKind.wrap_i64];omega
       have hw4:IntKind.i64.wrap ((d:Int)*(1+(b:Int)))=(q:Int):=by rw [show (d:Int)*(1+(b:Int))=(q:Int) from by rw [hq];simp,IntKind.wrap_i64];omega
       have hw5:IntKind.i64.wrap ((p:Int)+(q:Int))=(p:Int)+(q:Int):=by rw [IntKind.wrap_i64];omega
       have hm4:¬((m1:Int) < 0):=by omega
       have HTT:=zzA ht
       clear hb hp hq hd hm2 ht
       go_wp2_with fail
       all_goals go_ret
       all_goals exact ⟨congrArg (fun z=>Ending.returned (Value.int .i64 z)) (by have:=HTT.out;first | omega | (split <;> omega)),hBW.out⟩
     ·have hk2:(k==6)=false:=beq_eq_false_iff_ne.2 hk
      rw [if_pos hk] at ht
      have hw1:IntKind.i64.wrap (1+((min N 1073741824:Nat):Int))=1+((min N 1073741824:Nat):Int):=by rw [IntKind.wrap_i64];omega
      obtain ⟨b,hb⟩:∃ b:Nat,b=min N 1073741824:=⟨_,rfl⟩
      have ht2:T=min (b+1) 1073741824:=by omega
      have hsub:k≠4→k≠5→k≠7→b=0:=fun h4 h5 h7=>by
       have:(trs l).length=0:=by
        dsimp only at hnb
        unfold nodeF at hnb
        repeat' split at hnb
        all_goals first
         | exact absurd (by assumption) h4
         | exact absurd (by assumption) h5
         | exact absurd (by assumption) h7
         | exact absurd (by assumption) hk
         | cases hnb
         | (simp only [zzc,beq_iff_eq] at hnb;exact hnb.2.1)
         | (simp only [zzc,beq_iff_eq] at hnb;exact hnb.2)
       have h0:trs l=[]:=List.eq_nil_of_length_eq_zero this
       rw [hb,HNN.out,h0,uzs];rfl
      rw [←hb] at hw1 ⊢
      obtain ⟨v,hv⟩:∃ v:Int,v=1+(b:Int):=⟨_,rfl⟩
      replace hw1:IntKind.i64.wrap (1+(b:Int))=v:=by rw [hw1,hv]
      have HV:=zzA hv
      have HTT:=zzA ht2
      have HSUB:=zzA hsub
      clear hb ht ht2 hm2 hnb hsub hv
      by_cases h4:k=4
      ·subst h4
       go_wp2_with fail
       all_goals go_ret
       all_goals exact ⟨congrArg (fun z=>Ending.returned (Value.int .i64 z)) (by have:=HTT.out;have:=HV.out;first | omega | (split <;> omega)),hBW.out⟩
      by_cases h5:k=5
      ·subst h5
       go_wp2_with fail
       all_goals go_ret
       all_goals exact ⟨congrArg (fun z=>Ending.returned (Value.int .i64 z)) (by have:=HTT.out;have:=HV.out;first | omega | (split <;> omega)),hBW.out⟩
      by_cases h7:k=7
      ·subst h7
       go_wp2_with fail
       all_goals go_ret
       all_goals exact ⟨congrArg (fun z=>Ending.returned (Value.int .i64 z)) (by have:=HTT.out;have:=HV.out;first | omega | (split <;> omega)),hBW.out⟩
      have g4:(k==4)=false:=beq_eq_false_iff_ne.2 h4
      have g5:(k==5)=false:=beq_eq_false_iff_ne.2 h5
      have g7:(k==7)=false:=beq_eq_false_iff_ne.2 h7
      have HZ:=zzA (HSUB.out h4 h5 h7)
      go_wp2_with fail
      all_goals go_ret
      all_goals exact ⟨congrArg (fun z=>Ending.returned (Value.int .i64 z)) (by have:=HTT.out;have:=HZ.out;omega),hBW.out⟩
end Go.Proofs.Ytkhkllpdhnmhkaa
namespace Go.Proofs.Ytkhkllpdhnmhkaa
open Go.RowKit Tr
theorem grt_snoc:∀ (a:List Tr.Tr) (t:Tr.Tr) (g:Int),greatests (a++[t]) g=max (greatests a g) (greatest t)
 | [],t,g=>by rw [List.nil_append,greatests,greatests,greatests]
 | x :: a,t,g=>by rw [List.cons_append,greatests,grt_snoc a,greatests]
set_option maxRecDepth 100000 in
set_option maxHeartbeats 1000000 in
theorem grt_any:∀ (t:Ta) (S:Nat→Prop) (w:World),RT w S t→(∀ b,S b→b < w.heap.size) →
  Calls Try.prog 21 #[t.val] w fun e w'=>e=.returned (.int .i64 (greatest t.tr))∧Below w.heap.size w w':=by
 intro t
 induction t using Ta.ind with
 | h t ih =>
  intro S w h hS
  cases t with
  | mk k r ra rc ast l sa sc mn mx z ix nm =>
   obtain ⟨⟨-,-,hll,-⟩,hN,hL⟩:=h.parts
   have IH:=zzA ih
   have HN:=zzA hN
   have HL:=zzA hL
   have HS:=zzA hS
   clear ih hL hS h
   simp only [Ta.val,Ta.vals,Ta.tr,greatest]
   have hb0:Below w.heap.size w (w.alloc (.cells #[.int .i64 k,.slice ra r.length rc,.int .i64 ast,.slice sa l.length sc,.int .i64 mn,.int .i64 mx,.bool z,.int .i64 ix,.string nm] 25)):=(zzb _ _).alloc (zzF _) _
   have hbl:=Blk.new w 25 [.int .i64 k,.slice ra r.length rc,.int .i64 ast,.slice sa l.length sc,.int .i64 mn,.int .i64 mx,.bool z,.int .i64 ix,.string nm]
   have hsc:=hN.1
   have hsc2:=hN.2.1
   have HB0:=zzA hb0
   have HBL:=zzA hbl
   clear hb0 hbl hN
   have k7:(w.alloc (.cells #[.int .i64 k,.slice ra r.length rc,.int .i64 ast,.slice sa l.length sc,.int .i64 mn,.int .i64 mx,.bool z,.int .i64 ix,.string nm] 25)).cell? ⟨w.heap.size,7,none⟩=some (.int .i64 ix):=HBL.out.cell 7
   have k3:(w.alloc (.cells #[.int .i64 k,.slice ra r.length rc,.int .i64 ast,.slice sa l.length sc,.int .i64 mn,.int .i64 mx,.bool z,.int .i64 ix,.string nm] 25)).cell? ⟨w.heap.size,3,none⟩=some (.slice sa l.length sc):=HBL.out.cell 3
   go_enter Try.func21,Try.ntmps21
   go_wp2_with fail
   generalize w.alloc (.cells #[.int .i64 k,.slice ra r.length rc,.int .i64 ast,.slice sa l.length sc,.int .i64 mn,.int .i64 mx,.bool z,.int .i64 ix,.string nm] 25)=w1 at *
   go_loopw [3,11] (fun lv iv wr=>∃ (i:Nat),i≤l.length∧iv=.int .i64 (i:Int)∧lv=.int .i64 (greatests (trs (l.take i)) ix)∧Below w1.heap.size w1 wr) (fun _ iv _=>l.length - (intOf iv).toNat)
   case atStart=>exact ⟨0,zzZ _,rfl,by rw [List.take_zero,trs,greatests],zzb _ _⟩
   case round =>
    obtain ⟨i,hi,rfl,rfl,hb⟩:=hrel
    have HB:=zzA hb
    clear hb
    by_cases hlt:i < l.length
    ·have hlt2:(i:Int) < (l.length:Int):=by omega
     obtain ⟨b,off,rfl,hSb,_⟩:=HN.out.2.2.2.2 (by omega)
     obtain ⟨u,hu⟩:∃ u,l[i]?=some u:=⟨_,zzJ hlt⟩
     have hum:u∈l:=zzL hu
     have hbb:=HS.out b hSb
     have hbw:=HB0.out.trans (HB.out.mono HB0.out.size)
     have hcell:∀ j,j < 9→wr.cell? ⟨b,off+i*9+j,none⟩=u.vals[j]?:=fun j hj=>by
      rw [Nat.add_assoc,←HN.out.node hu hj]
      exact hbw.cell (p:=⟨b,off+(i*9+j),none⟩) hbb
     have hba:Below wr.heap.size wr (wr.alloc (.cells u.vals.toArray 25)):=(zzb _ _).alloc (zzF _) _
     have hin:=IH.out u hum S (wr.alloc (.cells u.vals.toArray 25)) ((HL.out u hum).below HS.out (hbw.trans (hba.mono hbw.size))) (fun b hb=>zzQ (HS.out b hb) (zzU hbw.size hba.size))
     have HST:=zzA (show greatests (trs (l.take (i+1))) ix=max (greatests (trs (l.take i)) ix) (greatest u.tr) from by rw [List.take_add_one,hu,trs_map,trs_map,zzT];exact grt_snoc _ _ _)
     have HBA:=zzA hba
     have HUB:=zzA (Blk.new wr 25 u.vals)
     generalize greatest u.tr=gu at *
     generalize greatests (trs (l.take i)) ix=gq at *
     cases u with
     | mk k' r' ra' rc' a' l' sa' sc' n' m' z' i' s' =>
     simp only [Ta.vals] at hcell HBA HUB
     simp only [Ta.val,Ta.vals] at hin
     have c0:=hcell 0 (by omega)
     have c1':=hcell 1 (by omega)
     have c2':=hcell 2 (by omega)
     have c3:=hcell 3 (by omega)
     have c4:=hcell 4 (by omega)
     have c5:=hcell 5 (by omega)
     have c6:=hcell 6 (by omega)
     have c7:=hcell 7 (by omega)
     have c8:=hcell 8 (by omega)
     simp only [zzR,zzX,Nat.add_zero] at c0 c1' c2' c3 c4 c5 c6 c7 c8
     have HIN:=zzA hin
     clear hin hcell hu hba hbw hum
     go_wp2_with (go_at_call 21;refine HIN.out.mono ?_;rintro e w2 ⟨rfl,hb2⟩;have HB2:=zzA hb2;clear hb2;simp only [])
     go_roundw
     case rel =>
      exact ⟨i+1,by omega,by go_num,by rw [HST.out];exact congrArg (Value.int .i64) (by show (if gq < gu then gu else gq)=max gq gu;omega),HB.out.trans ((HBA.out.trans (HB2.out.mono HBA.out.size)).mono HB.out.size)⟩
     case measure=>simp [intOf];omega
    ·obtain rfl:i=l.length:=by omega
     have hlt2:¬((l.length:Int) < (l.length:Int)):=by omega
     go_wp2_with fail
     go_ret
     exact ⟨rfl,HB0.out.trans (HB.out.mono HB0.out.size)⟩
end Go.Proofs.Ytkhkllpdhnmhkaa
namespace Go.Proofs.Ytkhkllpdhnmhkaa
open Go.RowKit Mach
theorem cells_two (w:World) (t:TypeId) (cs ds:List Value):Blk ((w.alloc (.cells cs.toArray t)).alloc (.cells ds.toArray t)) w.heap.size t cs∧Blk ((w.alloc (.cells cs.toArray t)).alloc (.cells ds.toArray t)) (w.heap.size+1) t ds:=by
 refine ⟨(Blk.new w t cs).alloc _,?_⟩
 have:=Blk.new (w.alloc (.cells cs.toArray t)) t ds
 rw [show (w.alloc (.cells cs.toArray t)).heap.size=w.heap.size+1 from by simp] at this
 exact this
set_option maxRecDepth 100000 in
set_option maxHeartbeats 4000000 in
theorem sameP_any (L1 L2:List InV) (hL:insL L1=insL L2) (A1 A2:Option Addr) (n c1 c2:Nat) (start caps:Int) (w:World) (h1:ReadsP w w.heap.size A1 n c1 L1) (h2:ReadsP w w.heap.size A2 n c2 L2)
  : Calls Try.prog 14 #[.agg #[.slice A1 n c1,.int .i64 start,.int .i64 caps],.agg #[.slice A2 n c2,.int .i64 start,.int .i64 caps]] w fun e w'=>e=.returned (.bool true)∧Below w.heap.size w w':=by
 have hl1:=h1.len
 have hl2:=h2.len
 have hnc1:=h1.1.le
 have hnc2:=h2.1.le
 have hcp1:=h1.1.cap
 have hcp2:=h2.1.cap
 obtain ⟨hB1,hB2⟩:=cells_two w 31 [.slice A1 n c1,.int .i64 start,.int .i64 caps] [.slice A2 n c2,.int .i64 start,.int .i64 caps]
 have hb0:Below w.heap.size w ((w.alloc (.cells #[.slice A1 n c1,.int .i64 start,.int .i64 caps] 31)).alloc (.cells #[.slice A2 n c2,.int .i64 start,.int .i64 caps] 31)):=((zzb _ _).alloc (zzF _) _).alloc (by simp) _
 have HB1:=zzA hB1
 have HB2:=zzA hB2
 have HB0:=zzA hb0
 have H1:=zzA (h1.below hb0)
 have H2:=zzA (h2.below hb0)
 have HL:=zzA hL
 clear hB1 hB2 hb0 h1 h2 hL
 go_enter Try.func14,Try.ntmps14
 go_wp2_with fail
 generalize (w.alloc (.cells #[.slice A1 n c1,.int .i64 start,.int .i64 caps] 31)).alloc (.cells #[.slice A2 n c2,.int .i64 start,.int .i64 caps] 31)=w1 at *
 go_loopw [5] (fun q wr=>∃ i:Nat,i≤n∧q=.int .i64 i∧Below w1.heap.size w1 wr) (fun q _=>n - (intOf q).toNat)
 case atStart=>exact ⟨0,zzZ _,rfl,zzb _ _⟩
 case round =>
  obtain ⟨i,hi,rfl,hb⟩:=hrel
  obtain ⟨wo,hwo⟩:∃ wo,wo=wr:=⟨_,rfl⟩
  subst hwo
  have r1:wo.cell? ⟨w.heap.size,0,none⟩=some (.slice A1 n c1):=(HB1.out.below hb HB1.out.lt).cell 0
  have r2:wo.cell? ⟨w.heap.size+1,0,none⟩=some (.slice A2 n c2):=(HB2.out.below hb HB2.out.lt).cell 0
  have HSZ:=HB0.out.size
  by_cases hlt:i < n
  ·have hlt2:(i:Int) < (n:Int):=by omega
   obtain ⟨a1,o1,hA1,ha1⟩:=H1.out.at_ (by omega)
   obtain ⟨a2,o2,hA2,ha2⟩:=H2.out.at_ (by omega)
   subst hA1 hA2
   obtain ⟨v1,hv1⟩:∃ v,L1[i]?=some v:=⟨_,zzJ (by omega)⟩
   obtain ⟨v2,hv2⟩:∃ v,L2[i]?=some v:=⟨_,zzJ (by omega)⟩
   have hvv:v1.I=v2.I:=by
    have:=congrArg (·[i]?) HL.out
    simp only [insL,zza,hv1,hv2,Option.map_some,zzd] at this
    exact this
   have hb1:=(H1.out.more HSZ).below hb
   have hb2:=(H2.out.more HSZ).below hb
   obtain ⟨i0,i1,i2,i3,i4⟩:=hb1.cells hv1
   obtain ⟨j0,j1,j2,j3,j4⟩:=hb2.cells hv2
   have hr1:=(hb1.2 _ (zzL hv1)).1
   have hr2:=(hb2.2 _ (zzL hv2)).1
   clear hv1 hv2 hb1 hb2
   obtain ⟨⟨op,x,y,arg,rng⟩,vA,vn,vc⟩:=v1
   obtain ⟨I2,uA,un,uc⟩:=v2
   simp only [] at hvv
   subst hvv
   simp only [] at i0 i1 i2 i3 i4 j0 j1 j2 j3 j4 hr1 hr2
   have hlr:rng.length=vn:=by have:=hr1.len;rw [flat_length] at this;omega
   obtain rfl:un=vn:=by have:=hr2.len;rw [flat_length] at this;omega
   have HB:=zzA hb
   have HLR:=zzA hlr
   have hq2:w.heap.size+1 < wo.heap.size:=by have h1:=HB2.out.lt;have h2:=hb.size;omega
   have hq1:w.heap.size < wo.heap.size:=by omega
   have hlt1:a1 < wo.heap.size:=by have:=hb.size;omega
   have hlt3:a2 < wo.heap.size:=by have:=hb.size;omega
   have hle1:=hr1.le
   have hle2:=hr2.le
   have hcc1:=hr1.cap
   have hcc2:=hr2.cap
   obtain ⟨hI1,hI2⟩:=cells_two wo 51 (insVals ⟨op,x,y,arg,rng⟩ vA un vc) (insVals ⟨op,x,y,arg,rng⟩ uA un uc)
   simp only [insVals] at hI1 hI2
   have HI1:=zzA hI1
   have HI2:=zzA hI2
   have hbI:Below w1.heap.size w1 ((wo.alloc (.cells #[.int .i64 op,.int .i64 x,.int .i64 y,.int .i64 arg,.slice vA un vc] 51)).alloc (.cells #[.int .i64 op,.int .i64 x,.int .i64 y,.int .i64 arg,.slice uA un uc] 51)):=(hb.alloc hb.size _).alloc (by have:=hb.size;simp;omega) _
   have HBI:=zzA hbI
   have hbJ:Below w1.heap.size wo ((wo.alloc (.cells #[.int .i64 op,.int .i64 x,.int .i64 y,.int .i64 arg,.slice vA un vc] 51)).alloc (.cells #[.int .i64 op,.int .i64 x,.int .i64 y,.int .i64 arg,.slice uA un uc] 51)):=((zzb _ _).alloc hb.size _).alloc (by have:=hb.size;simp;omega) _
   have HR1:=zzA (hr1.below hbJ)
   have HR2:=zzA (hr2.below hbJ)
   clear hbJ
   clear hr1 hr2 hb hI1 hI2 hbI hlr
   go_wp2_with fail
   generalize (wo.alloc (.cells #[.int .i64 op,.int .i64 x,.int .i64 y,.int .i64 arg,.slice vA un vc] 51)).alloc (.cells #[.int .i64 op,.int .i64 x,.int .i64 y,.int .i64 arg,.slice uA un uc] 51)=w2 at *
   clear i0 i1 i2 i3 i4 j0 j1 j2 j3 j4 r1 r2
   have HWS:=zzA (show w1.heap.size≤wo.heap.size from HB.out.size)

   go_loopw [8] (fun q wq=>∃ k:Nat,k≤un∧q=.int .i64 k∧Below w2.heap.size w2 wq) (fun q _=>un - (intOf q).toNat)
   case atStart=>exact ⟨0,zzZ _,rfl,zzb _ _⟩
   case round =>
    obtain ⟨k,hk,rfl,hq⟩:=hrel
    have s1:wr.cell? ⟨wo.heap.size,4,none⟩=some (.slice vA un vc):=(HI1.out.below hq HI1.out.lt).cell 4
    have s2:wr.cell? ⟨wo.heap.size+1,4,none⟩=some (.slice uA un uc):=(HI2.out.below hq HI2.out.lt).cell 4
    have HQ:=zzA hq
    clear hq
    by_cases hkl:k < un
    ·have hkl2:(k:Int) < (un:Int):=by omega
     obtain ⟨p1,o1,hA1,hl1,hc1⟩:=HR1.out.at_ (by omega)
     obtain ⟨p2,o2,hA2,hl2,hc2⟩:=HR2.out.at_ (by omega)
     subst hA1 hA2
     have hw2s:=HBI.out.size
     obtain ⟨z,hz⟩:∃ z,rng[k]?=some z:=⟨_,zzJ (by have:=HLR.out;omega)⟩
     have hg:=flat_get rng _ _ hz
     have e1:wr.cell? ⟨p1,o1+k*2,none⟩=some (.int .i64 z.1):=(HQ.out.cell (p:=⟨p1,o1+k*2,none⟩) (by simp only [];omega)).trans (hc1 _ _ hg.1)
     have e2:wr.cell? ⟨p1,o1+k*2+1,none⟩=some (.int .i64 z.2):=(HQ.out.cell (p:=⟨p1,o1+k*2+1,none⟩) (by simp only [];omega)).trans (hc1 (k*2+1) _ hg.2)
     have e3:wr.cell? ⟨p2,o2+k*2,none⟩=some (.int .i64 z.1):=(HQ.out.cell (p:=⟨p2,o2+k*2,none⟩) (by simp only [];omega)).trans (hc2 _ _ hg.1)
     have e4:wr.cell? ⟨p2,o2+k*2+1,none⟩=some (.int .i64 z.2):=(HQ.out.cell (p:=⟨p2,o2+k*2+1,none⟩) (by simp only [];omega)).trans (hc2 (k*2+1) _ hg.2)
     obtain ⟨z1,z2⟩:=z
     simp only [] at e1 e2 e3 e4
     clear hc1 hc2 hz hg
     go_wp2_with fail
     go_quiet (fail)
     go_wp2_with fail
     go_roundw
     case rel=>exact ⟨k+1,by omega,by go_num,bdrewN HQ.out nq⟩
     case measure=>simp [intOf];omega
    ·obtain rfl:k=un:=by omega
     go_wp2_with fail
     go_roundw
     case rel=>exact ⟨i+1,by omega,by go_num,HBI.out.trans (HQ.out.mono HBI.out.size)⟩
     case measure=>simp [intOf];omega
  ·obtain rfl:i=n:=by omega
   have HB:=zzA hb
   clear hb
   go_wp2_with fail
   go_ret
   exact ⟨rfl,HB0.out.trans (HB.out.mono HB0.out.size)⟩
end Go.Proofs.Ytkhkllpdhnmhkaa
namespace Go.Proofs.Ytkhkllpdhnmhkaa
open Go.RowKit Mach
set_option maxHeartbeats 1000000 in
theorem there_any (i n:Int) (bx:Nat) (w:World) (hc:w.cell? ⟨bx,0,none⟩=some (.int .i64 n)) :
  Calls Try.prog 46 #[.int .i64 i,.pointer (some ⟨bx,0,none⟩)] w fun e w'=>e=.returned (.bool (decide (0≤i∧i < n)))∧w=w':=by
 by_cases h1:0≤i <;> by_cases h2:i < n
 all_goals
  go_enter Try.func46,Try.ntmps46
  go_wp2_with fail
  go_ret
  exact ⟨ret_bool (by simp [h1,h2]),rfl⟩
set_option maxRecDepth 100000 in
set_option maxHeartbeats 4000000 in
theorem may_any (I:Ins) (A:Option Addr) (rn rc:Nat) (n caps:Int) (w:World) (hr:Reads w w.heap.size 2 A rn rc (flat I.rng)) :
  Calls Try.prog 29 #[.agg #[.int .i64 I.op,.int .i64 I.x,.int .i64 I.y,.int .i64 I.arg,.slice A rn rc],.int .i64 n,.int .i64 caps] w fun e w'=>e=.returned (.bool (mayB I n caps))∧Below w.heap.size w w':=by
 obtain ⟨op,x,y,arg,rng⟩:=I
 simp only [] at hr ⊢
 have hmf:∀ (fn:Fn) (first cap:Array Value) (w:World),(Instr.makeFunc fn first cap).run Try.prog w=.ok (.func fn first cap) w:=fun _ _ _ _=>rfl
 have hlen:rng.length=rn:=by have:=hr.len;rw [flat_length] at this;omega
 have HLEN:=zzA hlen
 have hnc:=hr.le
 have hcap:=hr.cap
 have HR:=zzA hr
 have HNIL:=zzA (show rng=[] ↔ rn=0 from by rw [←hlen];exact ⟨fun h=>by rw [h];rfl,List.eq_nil_of_length_eq_zero⟩)
 clear hr hlen
 rcases (show op=1∨op=2∨op=3∨op=4∨op=5∨op=6∨op=7∨(op < 1∨7 < op) from by omega) with rfl | rfl | rfl | rfl | rfl | rfl | rfl | hop
 case' inr.inr.inr.inr.inr.inr.inr=>rcases hop with hop | hop
 all_goals
  go_enter Try.func29,Try.ntmps29
  go_wp2_with (first
   | (go_at_call 46;refine (there_any _ n (w.heap.size+1) _ (by go_simp)).mono ?_;rintro e w' ⟨rfl,rfl⟩)
   | (go_at_call 47;refine (right_any A rn rc rng _ (((HR.out.alloc (zzF _) _).alloc (by simp) _).more (by simp;omega))).mono ?_;rintro e w' ⟨rfl,hb2⟩;have hb3:=((((zzb w.heap.size w).alloc (zzF _) _).alloc (by simp) _).trans (hb2.mono (by simp;omega)))))
  all_goals go_ret
  all_goals refine ⟨ret_bool ?_,by first | exact ((zzb _ _).alloc (zzF _) _).alloc (by simp) _ | exact hb3⟩
  all_goals unfold mayB
  all_goals simp only [HNIL.out,ne_eq]
  all_goals (first | (simp [isAs, *];done) | (simp [isAs, *];omega) | (simp_all [isAs];done) | (simp_all [isAs];omega) | (rw [Bool.eq_iff_iff];simp [isAs, *];done) | (rw [Bool.eq_iff_iff];simp [isAs, *];omega) | (rw [Bool.eq_iff_iff];simp_all;done))
end Go.Proofs.Ytkhkllpdhnmhkaa
namespace Go.Proofs.Ytkhkllpdhnmhkaa
open Go.RowKit Mach
set_option maxRecDepth 100000 in
set_option maxHeartbeats 4000000 in
theorem check_any (A:Option Addr) (n c:Nat) (L:List InV) (start caps:Int) (w:World) (hr:ReadsP w w.heap.size A n c L) :
  Calls Try.prog 15 #[.agg #[.slice A n c,.int .i64 start,.int .i64 caps]] w fun e w'=>e=.returned (.int .i64 (chkE ⟨insL L,start,caps⟩))∧Below w.heap.size w w':=by
 obtain ⟨B,hB⟩:∃ B,B=w.heap.size:=⟨_,rfl⟩
 rw [←hB] at hr
 rw [←hB]
 have hBs:B≤w.heap.size:=by omega
 have hlen:=hr.len
 have HLEN:=zzA hlen
 have hnc:=hr.1.le
 have hcap:=hr.1.cap
 have HR:=zzA hr
 have hbe:Below B w (w.alloc (.cells #[.slice A n c,.int .i64 start,.int .i64 caps] 31)):=(zzb _ _).alloc hBs _
 have HNO:=zzA (show headB n start caps=false→chkE ⟨insL L,start,caps⟩=90 from fun h=>by
  unfold chkE checkB insL;simp only [zzP,hlen,h,Bool.false_and];rfl)
 clear hlen hr hB
 by_cases h1:n < 1
 ·have HF:=zzA (HNO.out (by unfold headB;simp;omega))
  go_enter Try.func15,Try.ntmps15
  go_wp2_with fail
  go_ret
  exact ⟨ret_int HF.out.symm,hbe⟩
 by_cases h2:20000 < n
 ·have HF:=zzA (HNO.out (by unfold headB;simp;omega))
  go_enter Try.func15,Try.ntmps15
  go_wp2_with fail
  go_ret
  exact ⟨ret_int HF.out.symm,hbe⟩
 by_cases h3:start < 0
 ·have HF:=zzA (HNO.out (by unfold headB;simp;omega))
  go_enter Try.func15,Try.ntmps15
  go_wp2_with fail
  go_ret
  exact ⟨ret_int HF.out.symm,hbe⟩
 by_cases h4:(n:Int)≤start
 ·have HF:=zzA (HNO.out (by unfold headB;simp;omega))
  go_enter Try.func15,Try.ntmps15
  go_wp2_with fail
  go_ret
  exact ⟨ret_int HF.out.symm,hbe⟩
 by_cases h5:caps < 2
 ·have HF:=zzA (HNO.out (by unfold headB;simp;omega))
  go_enter Try.func15,Try.ntmps15
  go_wp2_with fail
  all_goals go_ret
  all_goals exact ⟨ret_int HF.out.symm,hbe⟩
 by_cases h6:1002 < caps
 ·have HF:=zzA (HNO.out (by unfold headB;simp;omega))
  go_enter Try.func15,Try.ntmps15
  go_wp2_with fail
  all_goals go_ret
  all_goals exact ⟨ret_int HF.out.symm,hbe⟩
 by_cases h7:caps % 2=0
 case neg =>
  have HF:=zzA (HNO.out (by unfold headB;simp;omega))
  have h8:(caps % 2 != 0)=true:=by rw [bne_iff_ne];exact h7
  have h9:(caps % 2==1)=true:=by rw [beq_iff_eq];omega
  have H7:=zzA h7
  clear h7
  go_enter Try.func15,Try.ntmps15
  go_wp2_with fail
  go_ret
  exact ⟨ret_int HF.out.symm,hbe⟩
 have h8:(caps % 2 != 0)=false:=by rw [bne_eq_false_iff_eq];exact h7
 have h9:(caps % 2==1)=false:=by rw [beq_eq_false_iff_ne];omega
 have HH:=zzA (show headB n start caps=true from by unfold headB;simp;omega)
 have HALL:=zzA (show checkB ⟨insL L,start,caps⟩=(insL L).all fun i=>mayB i n caps from by
  unfold checkB;simp only [insL,zzP];rw [HLEN.out,HH.out,Bool.true_and])
 have H7:=zzA h7
 have hnn:(1:Int)≤n:=by omega
 clear HNO h7
 have hbx1:(w.alloc (.cells #[.slice A n c,.int .i64 start,.int .i64 caps] 31)).cell? ⟨w.heap.size,2,none⟩=some (.int .i64 caps):=(Blk.new w _ [.slice A n c,.int .i64 start,.int .i64 caps]).cell 2
 have hbx0:(w.alloc (.cells #[.slice A n c,.int .i64 start,.int .i64 caps] 31)).cell? ⟨w.heap.size,0,none⟩=some (.slice A n c):=(Blk.new w _ [.slice A n c,.int .i64 start,.int .i64 caps]).cell 0
 have hrb:ReadsP (w.alloc (.cells #[.slice A n c,.int .i64 start,.int .i64 caps] 31)) B A n c L:=HR.out.below hbe
 have HRB:=zzA hrb
 have HBX:=zzA hbx1
 have HBX0:=zzA hbx0
 clear hbx1 hbx0 hrb HR
 obtain ⟨W0,hW0⟩:∃ W0,W0=w.alloc (.cells #[.slice A n c,.int .i64 start,.int .i64 caps] 31):=⟨_,rfl⟩
 rw [←hW0] at hbe HRB HBX HBX0
 have hsz:W0.heap.size=w.heap.size+1:=by rw [hW0];simp
 have HSZ:=zzA hsz
 have HW0:=zzA hW0
 clear hsz hW0
 go_enter Try.func15,Try.ntmps15
 go_wp2_with fail
 rw [←HW0.out]
 go_loopw [45] (fun p wr=>∃ i:Nat,i≤n∧p=.int .i64 i∧(∀ v∈L.take i,mayB v.I n caps=true)∧Below W0.heap.size W0 wr) (fun p _=>n - (intOf p).toNat)
 case atStart=>exact ⟨0,zzZ _,rfl,by simp,zzb _ _⟩
 case round =>
  obtain ⟨i,hi1,rfl,hok,hbel⟩:=hrel
  have HOK:=zzA hok
  have hszr:=hbel.size
  have hbB:Below B w wr:=hbe.trans (hbel.mono (by rw [HSZ.out];omega))
  clear hok
  have hq2:wr.cell? ⟨w.heap.size,2,none⟩=some (.int .i64 caps):=(hbel.cell (p:=⟨w.heap.size,2,none⟩) (by rw [HSZ.out];simp)).trans HBX.out
  have hq0:wr.cell? ⟨w.heap.size,0,none⟩=some (.slice A n c):=(hbel.cell (p:=⟨w.heap.size,0,none⟩) (by rw [HSZ.out];simp)).trans HBX0.out
  by_cases hlt:i < n
  ·obtain ⟨v,hv⟩:∃ v,L[i]?=some v:=⟨_,zzJ (by have:=HLEN.out;omega)⟩
   obtain ⟨b,off,rfl,hb⟩:=HRB.out.at_ (by omega)
   have hrw:ReadsP wr W0.heap.size (some ⟨b,off,none⟩) n c L:=(HRB.out.more (by rw [HSZ.out];omega)).below hbel
   have hrv:=(hrw.2 v (zzL hv)).1
   obtain ⟨hc0,hc1,hc2,hc3,hc4⟩:=hrw.cells hv
   have HV:=zzA hv
   have HSTEP:=zzA (show mayB v.I n caps=true→∀ u∈L.take (i+1),mayB u.I n caps=true from fun h u hu=>by
    rw [List.take_add_one,HV.out] at hu
    simp only [Option.toList_some,zzM,zzE] at hu
    rcases hu with hu | rfl
    ·exact HOK.out u hu
    ·exact h)
   have HBAD:=zzA (show mayB v.I n caps=false→chkE ⟨insL L,start,caps⟩=90 from fun h=>by
    unfold chkE
    rw [HALL.out]
    have:(insL L).all (fun i=>mayB i n caps)=false:=by
     rw [List.all_eq_false]
     exact ⟨v.I,by unfold insL;exact List.mem_map.2 ⟨v,zzL HV.out,rfl⟩,by simp [h]⟩
    rw [this];rfl)
   have HRV:=zzA hrv
   clear hv hrv hrw
   obtain ⟨⟨op,x,y,arg,rng⟩,vA,vn,vc⟩:=v
   simp only [] at hc0 hc1 hc2 hc3 hc4 HBAD HSTEP HRV
   have hbel1:=hbel.alloc hszr (.cells #[.int .i64 op,.int .i64 x,.int .i64 y,.int .i64 arg,.slice vA vn vc] 51)
   have hs1:W0.heap.size≤(wr.alloc (.cells #[.int .i64 op,.int .i64 x,.int .i64 y,.int .i64 arg,.slice vA vn vc] 51)).heap.size:=zzU hszr (by simp)
   have hbq:w.heap.size < wr.heap.size:=by have:=HSZ.out;omega
   have HM:=zzA (may_any ⟨op,x,y,arg,rng⟩ vA vn vc n caps (wr.alloc (.cells #[.int .i64 op,.int .i64 x,.int .i64 y,.int .i64 arg,.slice vA vn vc] 51)) (((HRV.out.alloc hszr _)).more hs1))
   have HBB:=zzA hbB
   cases hm:mayB ⟨op,x,y,arg,rng⟩ n caps with
   | false =>
    go_wp2_with (go_at_call 29;refine HM.out.mono ?_;rintro e w2 ⟨rfl,hb2⟩;rw [hm])
    go_ret
    exact ⟨ret_int (HBAD.out hm).symm,HBB.out.trans (((zzb _ _).alloc (by omega) _).trans (hb2.mono (by simp;omega)))⟩
   | true =>
    go_wp2_with (go_at_call 29;refine HM.out.mono ?_;rintro e w2 ⟨rfl,hb2⟩;rw [hm])
    go_roundw
    case rel=>exact ⟨i+1,by omega,by go_num,HSTEP.out hm,hbel1.trans (hb2.mono hs1)⟩
    case measure=>simp [intOf];omega
  ·obtain rfl:i=n:=by omega
   have HT:=zzA (show chkE ⟨insL L,start,caps⟩=0 from by
    unfold chkE
    rw [HALL.out]
    have:(insL L).all (fun x=>mayB x i caps)=true:=by
     rw [List.all_eq_true]
     intro x hx
     obtain ⟨v,hv,rfl⟩:=List.mem_map.1 hx
     exact HOK.out v (by rw [List.take_of_length_le (by have:=HLEN.out;omega)];exact hv)
    rw [this];rfl)
   go_wp2_with fail
   go_ret
   exact ⟨ret_int HT.out.symm,hbB⟩
end Go.Proofs.Ytkhkllpdhnmhkaa
namespace Go.Proofs.Ytkhkllpdhnmhkaa
open Go.RowKit Mach
set_option maxRecDepth 100000 in
set_option maxHeartbeats 4000000 in
theorem refMay_any (I:Ins) (A:Option Addr) (rn rc:Nat) (n caps:Int) (w:World) (hr:Reads w w.heap.size 2 A rn rc (flat I.rng)) :
  Calls Try.prog 22 #[.agg #[.int .i64 I.op,.int .i64 I.x,.int .i64 I.y,.int .i64 I.arg,.slice A rn rc],.int .i64 n,.int .i64 caps] w fun e w'=>e=.returned (.bool (mayB I n caps))∧Below w.heap.size w w':=by
 obtain ⟨op,x,y,arg,rng⟩:=I
 simp only [] at hr ⊢
 have hlen:rng.length=rn:=by have:=hr.len;rw [flat_length] at this;omega
 have HLEN:=zzA hlen
 have hnc:=hr.le
 have hcap:=hr.cap
 have HR:=zzA hr
 have HNIL:=zzA (show rng=[] ↔ rn=0 from by rw [←hlen];exact ⟨fun h=>by rw [h];rfl,List.eq_nil_of_length_eq_zero⟩)
 clear hr hlen
 rcases (show op=1∨op=2∨op=3∨op=4∨op=5∨op=6∨op=7∨(op < 1∨7 < op) from by omega) with rfl | rfl | rfl | rfl | rfl | rfl | rfl | hop
 case' inr.inr.inr.inr.inr.inr.inr=>rcases hop with hop | hop
 all_goals
  go_enter Try.func22,Try.ntmps22
  go_wp2_with (go_at_call 35;refine (refRight_any A rn rc w.heap.size rng _ (HR.out.alloc (zzF _) _)).mono ?_;rintro e w' ⟨rfl,m,rfl⟩)
  all_goals go_ret
  all_goals refine ⟨ret_bool ?_,bdrewN ((zzb _ _).alloc (zzF _) _) _⟩
  all_goals unfold mayB
  all_goals simp only [HNIL.out,ne_eq]
  all_goals (first | (simp [isAs, *];done) | (simp [isAs, *];omega) | (simp_all [isAs];done) | (simp_all [isAs];omega) | (rw [Bool.eq_iff_iff];simp [isAs, *];done) | (rw [Bool.eq_iff_iff];simp [isAs, *];omega) | (rw [Bool.eq_iff_iff];simp_all;done))
end Go.Proofs.Ytkhkllpdhnmhkaa
