/- heronref09.Check -/
import Derived.Deep.RegionHeldLaw
import Derived.Deep.AppendLies
import Derived.Test.YtkhkllpdhnmhkaaP27
namespace Go.Proofs.Ytkhkllpdhnmhkaa
open Go.RowKit Mach
set_option maxRecDepth 100000 in
set_option maxHeartbeats 4000000 in
theorem refCheck_any (A:Option Addr) (n c:Nat) (L:List InV) (start caps:Int) (w:World) (hr:ReadsP w w.heap.size A n c L) :
  Calls Try.prog 8 #[.agg #[.slice A n c,.int .i64 start,.int .i64 caps]] w fun e w'=>e=.returned (.int .i64 (chkE ⟨insL L,start,caps⟩))∧Below w.heap.size w w':=by
 obtain ⟨B,hB⟩:∃ B,B=w.heap.size:=⟨_,rfl⟩
 rw [←hB] at hr
 rw [←hB]
 have hBs:B≤w.heap.size:=by omega
 have hlen:=hr.len
 have HLEN:=zzA hlen
 have hnc:=hr.1.le
 have hcap:=hr.1.cap
 have HR:=zzA hr
 have hbe:Below B w (w.alloc (.cells #[.slice A n c,.int .i64 start,.int .i64 caps] 31)):=(zzb _ _).alloc hBs _
 have HNO:=zzA (show headB n start caps=false→chkE ⟨insL L,start,caps⟩=90 from fun h=>by
  unfold chkE checkB insL;simp only [zzP,hlen,h,Bool.false_and];rfl)
 clear hlen hr hB
 by_cases h1:n < 1
 ·have HF:=zzA (HNO.out (by unfold headB;simp;omega))
  go_enter Try.func8,Try.ntmps8
  go_wp2_with fail
  go_ret
  exact ⟨ret_int HF.out.symm,hbe⟩
 by_cases h2:20000 < n
 ·have HF:=zzA (HNO.out (by unfold headB;simp;omega))
  go_enter Try.func8,Try.ntmps8
  go_wp2_with fail
  go_ret
  exact ⟨ret_int HF.out.symm,hbe⟩
 by_cases h3:start < 0
 ·have HF:=zzA (HNO.out (by unfold headB;simp;omega))
  go_enter Try.func8,Try.ntmps8
  go_wp2_with fail
  go_ret
  exact ⟨ret_int HF.out.symm,hbe⟩
 by_cases h4:(n:Int)≤start
 ·have HF:=zzA (HNO.out (by unfold headB;simp;omega))
  go_enter Try.func8,Try.ntmps8
  go_wp2_with fail
  go_ret
  exact ⟨ret_int HF.out.symm,hbe⟩
 by_cases h5:caps < 2
 ·have HF:=zzA (HNO.out (by unfold headB;simp;omega))
  go_enter Try.func8,Try.ntmps8
  go_wp2_with fail
  all_goals go_ret
  all_goals exact ⟨ret_int HF.out.symm,hbe⟩
 by_cases h6:1002 < caps
 ·have HF:=zzA (HNO.out (by unfold headB;simp;omega))
  go_enter Try.func8,Try.ntmps8
  go_wp2_with fail
  all_goals go_ret
  all_goals exact ⟨ret_int HF.out.symm,hbe⟩
 by_cases h7:caps % 2=0
 case neg =>
  have HF:=zzA (HNO.out (by unfold headB;simp;omega))
  have h8:(caps % 2 != 0)=true:=by rw [bne_iff_ne];exact h7
  have h9:(caps % 2==1)=true:=by rw [beq_iff_eq];omega
  have H7:=zzA h7
  clear h7
  go_enter Try.func8,Try.ntmps8
  go_wp2_with fail
  go_ret
  exact ⟨ret_int HF.out.symm,hbe⟩
 have h8:(caps % 2 != 0)=false:=by rw [bne_eq_false_iff_eq];exact h7
 have h9:(caps % 2==1)=false:=by rw [beq_eq_false_iff_ne];omega
 have HH:=zzA (show headB n start caps=true from by unfold headB;simp;omega)
 have HALL:=zzA (show checkB ⟨insL L,start,caps⟩=(insL L).all fun i=>mayB i n caps from by
  unfold checkB;simp only [insL,zzP];rw [HLEN.out,HH.out,Bool.true_and])
 have H7:=zzA h7
 have hnn:(1:Int)≤n:=by omega
 clear HNO h7
 have hbx1:(w.alloc (.cells #[.slice A n c,.int .i64 start,.int .i64 caps] 31)).cell? ⟨w.heap.size,2,none⟩=some (.int .i64 caps):=(Blk.new w _ [.slice A n c,.int .i64 start,.int .i64 caps]).cell 2
 have hbx0:(w.alloc (.cells #[.slice A n c,.int .i64 start,.int .i64 caps] 31)).cell? ⟨w.heap.size,0,none⟩=some (.slice A n c):=(Blk.new w _ [.slice A n c,.int .i64 start,.int .i64 caps]).cell 0
 have hrb:ReadsP (w.alloc (.cells #[.slice A n c,.int .i64 start,.int .i64 caps] 31)) B A n c L:=HR.out.below hbe
 have HRB:=zzA hrb
 have HBX:=zzA hbx1
 have HBX0:=zzA hbx0
 clear hbx1 hbx0 hrb HR
 obtain ⟨W0,hW0⟩:∃ W0,W0=w.alloc (.cells #[.slice A n c,.int .i64 start,.int .i64 caps] 31):=⟨_,rfl⟩
 rw [←hW0] at hbe HRB HBX HBX0
 have hsz:W0.heap.size=w.heap.size+1:=by rw [hW0];simp
 have HSZ:=zzA hsz
 have HW0:=zzA hW0
 clear hsz hW0
 go_enter Try.func8,Try.ntmps8
 go_wp2_with fail
 rw [←HW0.out]
 go_loopw [4] (fun p wr=>∃ i:Nat,i≤n∧p=.int .i64 i∧(∀ v∈L.take i,mayB v.I n caps=true)∧Below W0.heap.size W0 wr) (fun p _=>n - (intOf p).toNat)
 case atStart=>exact ⟨0,zzZ _,rfl,by simp,zzb _ _⟩
 case round =>
  obtain ⟨i,hi1,rfl,hok,hbel⟩:=hrel
  have HOK:=zzA hok
  have hszr:=hbel.size
  have hbB:Below B w wr:=hbe.trans (hbel.mono (by rw [HSZ.out];omega))
  clear hok
  have hq2:wr.cell? ⟨w.heap.size,2,none⟩=some (.int .i64 caps):=(hbel.cell (p:=⟨w.heap.size,2,none⟩) (by rw [HSZ.out];simp)).trans HBX.out
  have hq0:wr.cell? ⟨w.heap.size,0,none⟩=some (.slice A n c):=(hbel.cell (p:=⟨w.heap.size,0,none⟩) (by rw [HSZ.out];simp)).trans HBX0.out
  by_cases hlt:i < n
  ·obtain ⟨v,hv⟩:∃ v,L[i]?=some v:=⟨_,zzJ (by have:=HLEN.out;omega)⟩
   obtain ⟨b,off,rfl,hb⟩:=HRB.out.at_ (by omega)
   have hrw:ReadsP wr W0.heap.size (some ⟨b,off,none⟩) n c L:=(HRB.out.more (by rw [HSZ.out];omega)).below hbel
   have hrv:=(hrw.2 v (zzL hv)).1
   obtain ⟨hc0,hc1,hc2,hc3,hc4⟩:=hrw.cells hv
   have HV:=zzA hv
   have HSTEP:=zzA (show mayB v.I n caps=true→∀ u∈L.take (i+1),mayB u.I n caps=true from fun h u hu=>by
    rw [List.take_add_one,HV.out] at hu
    simp only [Option.toList_some,zzM,zzE] at hu
    rcases hu with hu | rfl
    ·exact HOK.out u hu
    ·exact h)
   have HBAD:=zzA (show mayB v.I n caps=false→chkE ⟨insL L,start,caps⟩=90 from fun h=>by
    unfold chkE
    rw [HALL.out]
    have:(insL L).all (fun i=>mayB i n caps)=false:=by
     rw [List.all_eq_false]
     exact ⟨v.I,by unfold insL;exact List.mem_map.2 ⟨v,zzL HV.out,rfl⟩,by simp [h]⟩
    rw [this];rfl)
   have HRV:=zzA hrv
   clear hv hrv hrw
   obtain ⟨⟨op,x,y,arg,rng⟩,vA,vn,vc⟩:=v
   simp only [] at hc0 hc1 hc2 hc3 hc4 HBAD HSTEP HRV
   have HBB:=zzA hbB
   have kD:wr.drew.cell? ⟨w.heap.size,2,none⟩=some (.int .i64 caps)∧wr.drew.cell? ⟨w.heap.size,0,none⟩=some (.slice (some ⟨b,off,none⟩) n c)∧wr.drew.cell? ⟨b,off+i*5,none⟩=some (.int .i64 op)∧wr.drew.cell? ⟨b,off+i*5+1,none⟩=some (.int .i64 x)∧wr.drew.cell? ⟨b,off+i*5+2,none⟩=some (.int .i64 y)∧wr.drew.cell? ⟨b,off+i*5+3,none⟩=some (.int .i64 arg)∧wr.drew.cell? ⟨b,off+i*5+4,none⟩=some (.slice vA vn vc):=⟨hq2,hq0,hc0,hc1,hc2,hc3,hc4⟩
   have HM:=zzA (refMay_any ⟨op,x,y,arg,rng⟩ vA vn vc n caps wr.drew (show Reads wr.drew wr.drew.heap.size 2 vA vn vc (flat rng) from HRV.out.more hszr))
   have hbD:Below W0.heap.size W0 wr.drew:=bdrewN hbel 1
   have HBD:=zzA hbD
   clear hbD
   go_wp2_with fail
   go_region_held_law (fun w'=>w'.cell? ⟨w.heap.size,2,none⟩=some (.int .i64 caps)∧w'.cell? ⟨w.heap.size,0,none⟩=some (.slice (some ⟨b,off,none⟩) n c)∧w'.cell? ⟨b,off+i*5,none⟩=some (.int .i64 op)∧w'.cell? ⟨b,off+i*5+1,none⟩=some (.int .i64 x)∧w'.cell? ⟨b,off+i*5+2,none⟩=some (.int .i64 y)∧w'.cell? ⟨b,off+i*5+3,none⟩=some (.int .i64 arg)∧w'.cell? ⟨b,off+i*5+4,none⟩=some (.slice vA vn vc)) (first | exact kD | exact kE) (first
    | (go_simp;(first | with_reducible refine HM.out.mono ?_);rintro e w2 ⟨rfl,hb2⟩;have HB2:=zzA hb2;have kE:w2.cell? ⟨w.heap.size,2,none⟩=some (.int .i64 caps)∧w2.cell? ⟨w.heap.size,0,none⟩=some (.slice (some ⟨b,off,none⟩) n c)∧w2.cell? ⟨b,off+i*5,none⟩=some (.int .i64 op)∧w2.cell? ⟨b,off+i*5+1,none⟩=some (.int .i64 x)∧w2.cell? ⟨b,off+i*5+2,none⟩=some (.int .i64 y)∧w2.cell? ⟨b,off+i*5+3,none⟩=some (.int .i64 arg)∧w2.cell? ⟨b,off+i*5+4,none⟩=some (.slice vA vn vc):=(by
      have g1:w.heap.size < wr.drew.heap.size:=(by have:=HSZ.out;simp;omega)
      have g2:b < wr.drew.heap.size:=(by have:=HSZ.out;simp;omega)
      exact ⟨(hb2.cell (p:=⟨w.heap.size,2,none⟩) g1).trans kD.1,(hb2.cell (p:=⟨w.heap.size,0,none⟩) g1).trans kD.2.1,(hb2.cell (p:=⟨b,off+i*5,none⟩) g2).trans kD.2.2.1,(hb2.cell (p:=⟨b,off+i*5+1,none⟩) g2).trans kD.2.2.2.1,(hb2.cell (p:=⟨b,off+i*5+2,none⟩) g2).trans kD.2.2.2.2.1,(hb2.cell (p:=⟨b,off+i*5+3,none⟩) g2).trans kD.2.2.2.2.2.1,(hb2.cell (p:=⟨b,off+i*5+4,none⟩) g2).trans kD.2.2.2.2.2.2⟩);clear hb2))
   cases hm:mayB ⟨op,x,y,arg,rng⟩ n caps with
   | false =>
    go_wp2_with fail
    go_ret
    exact ⟨ret_int (HBAD.out hm).symm,(hbe.trans (HBD.out.mono (by rw [HSZ.out];omega))).trans (HB2.out.mono (by have:=HSZ.out;simp;omega))⟩
   | true =>
    go_wp2_with fail
    go_roundw
    case rel=>exact ⟨i+1,by omega,by go_num,HSTEP.out hm,HBD.out.trans (HB2.out.mono (by simpa using hszr))⟩
    case measure=>simp [intOf];omega
  ·obtain rfl:i=n:=by omega
   have HT:=zzA (show chkE ⟨insL L,start,caps⟩=0 from by
    unfold chkE
    rw [HALL.out]
    have:(insL L).all (fun x=>mayB x i caps)=true:=by
     rw [List.all_eq_true]
     intro x hx
     obtain ⟨v,hv,rfl⟩:=List.mem_map.1 hx
     exact HOK.out v (by rw [List.take_of_length_le (by have:=HLEN.out;omega)];exact hv)
    rw [this];rfl)
   go_wp2_with fail
   go_ret
   exact ⟨ret_int HT.out.symm,hbB⟩
end Go.Proofs.Ytkhkllpdhnmhkaa
