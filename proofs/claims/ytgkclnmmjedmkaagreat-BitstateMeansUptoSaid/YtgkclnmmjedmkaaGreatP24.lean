/- heronref05.Name: both cases. -/
import Derived.Deep.CutRange
import Derived.Test.YtgkclnmmjedmkaaGreatP20
set_option maxRecDepth 100000
set_option maxHeartbeats 2000000
namespace Go.Proofs.YtgkclnmmjedmkaaGreat
open Go.RowKit Tr
theorem bool_eq {a b:Bool} (h:a=b):Value.bool a=Value.bool b:=by rw [h]
def namesTo (s:ByteArray) (i:Nat):Bool:=wordsTo s i && (decide (i=0) || !digitB (s.data.toList.getD 0 0))
theorem names_step {s:ByteArray} {i:Nat} (h:i < s.size) (hi:namesTo s i=true):namesTo s (i+1)=(letterB (s[i]'h) || (digitB (s[i]'h) && !decide (i=0))):=by
 unfold namesTo at hi ⊢
 rw [zzc] at hi
 rw [words_step h,hi.1,Bool.true_and]
 have e:decide (i+1=0)=false:=decide_eq_false (by omega)
 rw [e,Bool.false_or]
 have hld:letterB (s[i]'h)=true→digitB (s[i]'h)=false:=by
  unfold letterB digitB
  intro g
  simp only [zzg,Bool.or_eq_true,zzc,zyE] at g
  rw [Bool.and_eq_false_iff,decide_eq_false_iff_not,decide_eq_false_iff_not]
  omega
 by_cases h0:i=0
 ·subst h0
  rw [name_head h]
  cases hl:letterB (s[0]'h) with
  | true=>rw [hld hl];rfl
  | false=>cases digitB (s[0]'h) <;> rfl
 ·have e2:decide (i=0)=false:=decide_eq_false h0
  rw [e2] at hi ⊢
  have:=hi.2
  rw [Bool.false_or] at this
  rw [this]
  cases letterB (s[i]'h) <;> cases digitB (s[i]'h) <;> rfl
theorem names_no {s:ByteArray} {i:Nat} (hi0:0 < i) (his:i≤s.size) (h:namesTo s i=false):nameB s=false:=by
 unfold namesTo at h
 rw [Bool.and_eq_false_iff] at h
 rcases h with h | h
 ·exact words_no h
 ·have e:decide (i=0)=false:=decide_eq_false (by omega)
  rw [e,Bool.false_or] at h
  unfold nameB
  rw [h,Bool.and_false]
theorem names_end {s:ByteArray} (h:namesTo s s.size=true) (h1:1≤s.size) (h2:s.size≤32):nameB s=true:=by
 unfold namesTo at h
 rw [zzc] at h
 have e:decide (s.size=0)=false:=decide_eq_false (by omega)
 rw [e,Bool.false_or] at h
 rw [name_end h.1,decide_eq_true h1,decide_eq_true h2,h.2];rfl
theorem names_nil (s:ByteArray):namesTo s 0=true:=by simp [namesTo,wordsTo]
theorem names_size {s:ByteArray} (h:¬(1≤s.size∧s.size≤32)):nameB s=false:=by
 unfold nameB
 by_cases h1:1≤s.size
 ·rw [decide_eq_false (show ¬s.size≤32 from fun h2=>h ⟨h1,h2⟩)];simp
 ·rw [decide_eq_false h1];simp
theorem rName_any (s:ByteArray) (w:World) (hs:s.size≤1048576) :
  Calls Tryz.prog 100 #[.string s] w fun e w'=>e=.returned (.bool (nameB s))∧w=w':=by
 by_cases h1:s.size < 1
 ·have hn:=names_size (s:=s) (by omega)
  have h1a:(s.size:Int) < 1:=by omega
  rw [hn]
  clear hn
  go_enter Tryz.func100,Tryz.ntmps100
  go_wp2_with fail
  go_ret
  exact ⟨rfl,rfl⟩
 ·by_cases h2:32 < s.size
  ·have hn:=names_size (s:=s) (by omega)
   have h1a:¬(s.size:Int) < 1:=by omega
   have h2a:(32:Int) < (s.size:Int):=by omega
   rw [hn]
   clear hn
   go_enter Tryz.func100,Tryz.ntmps100
   go_wp2_with fail
   go_ret
   exact ⟨rfl,rfl⟩
  ·have h1a:¬(s.size:Int) < 1:=by omega
   have h2a:¬(32:Int) < (s.size:Int):=by omega
   obtain ⟨res,hres⟩:∃ b,b=nameB s:=⟨_,rfl⟩
   rw [←hres]
   have HRES:=zzA hres
   clear hres
   go_enter Tryz.func100,Tryz.ntmps100
   go_wp2_with fail
   go_loopw [3] (fun iv wr=>∃ i:Nat,i≤s.size∧iv=.int .i64 (i:Int)∧namesTo s i=true∧w=wr) (fun iv _=>s.size - (intOf iv).toNat)
   case atStart=>exact ⟨0,zzZ _,rfl,names_nil s,rfl⟩
   case round =>
    obtain ⟨i,hi,rfl,ht,rfl⟩:=hrel
    have HT:=zzA ht
    clear ht
    by_cases hlt:i < s.size
    ·have hlt2:(i:Int) < (s.size:Int):=by omega
     have hst:=names_step hlt HT.out
     obtain ⟨c,hc⟩:∃ c,c=s[i]'hlt:=⟨_,rfl⟩
     have hc2:=hc
     have hcn:=UInt8.toNat_lt c
     rw [←hc] at hst
     obtain ⟨lb,hlb⟩:∃ b,b=letterB c:=⟨_,rfl⟩
     obtain ⟨db,hdb⟩:∃ b,b=digitB c:=⟨_,rfl⟩
     rw [←hlb,←hdb] at hst
     have HLB:=zzA hlb
     have HDB:=zzA hdb
     have HST:=zzA hst
     clear hst hlb hdb hc2
     go_upto_region 7 with (fail)
     rw [←hc]
     clear hc
     go_cut [5] from 15 to 57 (fun s5 w'=>s5=.bool lb∧w'=w)
     case first =>
      go_wp2_with fail
      all_goals go_meet
      all_goals exact ⟨bool_eq (HLB.out.symm ▸ (by unfold letterB;rw [Bool.eq_iff_iff];simp;omega)),rfl⟩
     case rest =>
      obtain ⟨rfl,rfl⟩:=hcut
      go_upto_region 8 with (fail)
      go_cut [6] from 15 to 57 (fun s6 w'=>s6=.bool db∧w'=wc)
      case first =>
       go_wp2_with fail
       all_goals go_meet
       all_goals exact ⟨bool_eq (HDB.out.symm ▸ (by unfold digitB;rw [Bool.eq_iff_iff];simp;omega)),rfl⟩
      case rest =>
       obtain ⟨rfl,rfl⟩:=hcut
       have hi0:decide (i=0)=((i:Int)==0):=by rw [Bool.eq_iff_iff];simp
       obtain ⟨zb,hzb⟩:∃ b,((i:Int)==0)=b:=⟨_,rfl⟩
       have hst:=HST.out
       rw [hi0,hzb] at hst
       have HST:=zzA hst
       clear hst hi0 hcn
       cases lb <;> cases db <;> cases zb
       all_goals go_wp2_with fail
       all_goals first
        | (go_roundw
           case rel=>exact ⟨i+1,by omega,by go_num,HST.out,by trivial⟩
           case measure=>simp [intOf];omega)
        | (go_ret
           exact ⟨ret_bool (HRES.out.trans (names_no (Nat.succ_pos i) hlt HST.out)).symm,rfl⟩)
    ·obtain rfl:i=s.size:=by omega
     have hlt2:¬((s.size:Int) < (s.size:Int)):=by omega
     have hne:=names_end HT.out (by omega) (by omega)
     have HNE:=zzA (HRES.out.trans hne)
     clear hne
     go_wp2_with fail
     go_ret
     exact ⟨ret_bool HNE.out.symm,rfl⟩
end Go.Proofs.YtgkclnmmjedmkaaGreat
