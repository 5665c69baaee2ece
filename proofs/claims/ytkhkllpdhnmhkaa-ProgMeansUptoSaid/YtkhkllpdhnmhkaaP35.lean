/- simplify.unfolded: a repeat with a top is unfolded. -/
import Derived.Test.YtkhkllpdhnmhkaaP12
import Derived.Test.YtkhkllpdhnmhkaaP34
namespace Go.Proofs.Ytkhkllpdhnmhkaa
open Go.RowKit Tr
set_option maxRecDepth 100000 in
set_option maxHeartbeats 2000000 in
theorem unfT_opt (B:Nat) (y:Ta) (k:Int) (r:List (Int × Int)) (ra:Option Addr) (rc:Nat) (ast:Int) (l:List Ta) (sa:Option Addr) (sc:Nat) (mn mx:Int) (z:Bool) (ix:Int) (nm:ByteArray) (w:World) (hy:RT w (Fr B [] w) y) (hB:B≤w.heap.size) (hal:allB y.tr=true) (hm:0≤mx) (hmx:mx≤1000) (hmn:0≤mn) (hmn1:mn≤1000) (hsz:(mn.toNat+1)*(putT y.tr).length≤1000000) :
  Calls Try.prog 59 #[y.val,(Ta.mk k r ra rc ast l sa sc mn mx z ix nm).val] w fun e w'=>∃ u:Ta,e=.returned u.val∧u.tr=row (repsT (putT y.tr) mn.toNat++putT (optS y.tr z (mx - mn).toNat))∧RT w' (Fr B [] w') u∧Below w.heap.size w w':=by
 have hus:=us_start B y (Ta.mk k r ra rc ast l sa sc mn mx z ix nm) w hy hB rfl
 obtain ⟨nn,hnn⟩:∃ nn:Nat,mn=(nn:Int):=⟨mn.toNat,by omega⟩
 have hnt:mn.toNat=nn:=by omega
 rw [hnt] at hsz ⊢
 obtain ⟨n2,hn2⟩:∃ n2:Nat,(mx - mn).toNat=n2:=⟨_,rfl⟩
 rw [hn2]
 have hm0:¬mx < 0:=by omega
 have hdf:∀ j:Nat,((j:Int) < mx - mn) ↔ j < n2:=fun j=>by omega
 have HDF:=zzA hdf
 have HN2:=zzA hn2
 have HNN:=zzA hnn
 clear hnt hy hdf hn2 hnn
 have HUS:=zzA hus
 clear hus
 cases y with
 | mk k' r' ra' rc' a' l' sa' sc' n' m' z' i' s' =>
 simp only [Ta.vals] at HUS
 simp only [Ta.val,Ta.vals]
 have t4:((((w.alloc (.cells #[.int .i64 k',.slice ra' r'.length rc',.int .i64 a',.slice sa' l'.length sc',.int .i64 n',.int .i64 m',.bool z',.int .i64 i',.string s'] 25)).alloc (.cells #[.int .i64 k,.slice ra r.length rc,.int .i64 ast,.slice sa l.length sc,.int .i64 mn,.int .i64 mx,.bool z,.int .i64 ix,.string nm] 25)).alloc (.cells #[.int .i64 0,.slice none 0 0,.int .i64 0,.slice none 0 0,.int .i64 0,.int .i64 0,.bool false,.int .i64 0,.string ⟨#[]⟩] 25)).alloc (.cells #[.slice none 0 0] 108)).cell? ⟨w.heap.size+1,4,none⟩=some (.int .i64 mn):=HUS.out.tb.cell 4
 have t5:((((w.alloc (.cells #[.int .i64 k',.slice ra' r'.length rc',.int .i64 a',.slice sa' l'.length sc',.int .i64 n',.int .i64 m',.bool z',.int .i64 i',.string s'] 25)).alloc (.cells #[.int .i64 k,.slice ra r.length rc,.int .i64 ast,.slice sa l.length sc,.int .i64 mn,.int .i64 mx,.bool z,.int .i64 ix,.string nm] 25)).alloc (.cells #[.int .i64 0,.slice none 0 0,.int .i64 0,.slice none 0 0,.int .i64 0,.int .i64 0,.bool false,.int .i64 0,.string ⟨#[]⟩] 25)).alloc (.cells #[.slice none 0 0] 108)).cell? ⟨w.heap.size+1,5,none⟩=some (.int .i64 mx):=HUS.out.tb.cell 5
 go_enter Try.func59,Try.ntmps59
 go_wp2_with fail
 generalize ((((w.alloc (.cells #[.int .i64 k',.slice ra' r'.length rc',.int .i64 a',.slice sa' l'.length sc',.int .i64 n',.int .i64 m',.bool z',.int .i64 i',.string s'] 25)).alloc (.cells #[.int .i64 k,.slice ra r.length rc,.int .i64 ast,.slice sa l.length sc,.int .i64 mn,.int .i64 mx,.bool z,.int .i64 ix,.string nm] 25)).alloc (.cells #[.int .i64 0,.slice none 0 0,.int .i64 0,.slice none 0 0,.int .i64 0,.int .i64 0,.bool false,.int .i64 0,.string ⟨#[]⟩] 25)).alloc (.cells #[.slice none 0 0] 108))=w4 at *
 have HAL:=zzA hal
 have HSZ:=zzA hsz
 clear t4 t5 hal hsz
 go_loopw [12] (fun iv wr=>∃ (j:Nat) (v:Value) (us:List Ta),j≤nn∧iv=.int .i64 (j:Int)∧trs us=repsT (putT (Ta.mk k' r' ra' rc' a' l' sa' sc' n' m' z' i' s').tr) j∧US B [] w (Ta.mk k' r' ra' rc' a' l' sa' sc' n' m' z' i' s') (Ta.mk k r ra rc ast l sa sc mn mx z ix nm) v us wr) (fun iv _=>nn - (intOf iv).toNat)
 case atStart=>exact ⟨0,_,[],zzZ _,rfl,rfl,HUS.out⟩
 case round =>
  obtain ⟨j,v,us,hj,rfl,htu,hr⟩:=hrel
  have HR:=zzA hr
  have HTU:=zzA htu
  have HLN:=zzA (show us.length≤1000000 from by rw [←trs_length,HTU.out,reps_len];exact zzU (Nat.mul_le_mul_right _ (show j≤nn+1 by omega)) HSZ.out)
  clear hr htu
  by_cases hlt:j < nn
  ·have hlt2:(j:Int) < mn:=by have:=HNN.out;omega
   obtain ⟨y0,y1,y2,y3,y4,y5,y6,y7,y8⟩:=bc9 (HR.out.yb)
   go_wp2_with fail
   refine (copied_any (Ta.mk k' r' ra' rc' a' l' sa' sc' n' m' z' i' s') (Fr B (((w.heap.size+1+1) :: [])++(w.heap.size+1+1+1) :: v.ownBlock.toList) wr) wr HR.out.yt (fun b hb=>hb.2.1)).mono ?_
   rintro e w5 ⟨u5,rfl,htr5,hrt5,hb5⟩
   have HR5:=zzA (HR.out.bel hb5)
   have HRT5:=zzA (hrt5.fr_in (B:=B) (L:=((w.heap.size+1+1) :: [])++(w.heap.size+1+1+1) :: v.ownBlock.toList) (zzU hB HR.out.below.size) (us_lt HR.out))
   have HTR:=zzA htr5
   have HB5:=zzA hb5
   clear htr5 hrt5 hb5
   clear y0 y1 y2 y3 y4 y5 y6 y7 y8
   simp only []
   go_wp2_with fail
   refine (put_any B (w.heap.size+1+1+1+1) ((w.heap.size+1+1) :: []) (w.heap.size+1+1+1) v us u5 w5 HR5.out.row HRT5.out HR5.out.row.blk.lt (zzU HLN.out (by decide)) (fun hk=>by rw [Ta.subs_len,HTR.out];rw [HTR.out] at hk;have:=subs_pos HAL.out hk;omega)).mono ?_
   rintro e w6 ⟨rfl,v6,hrow6,hk6,hv6⟩
   have HR6:=zzA (HR5.out.put hrow6 hk6 hv6)
   clear hrow6 hk6 hv6
   simp only []
   go_wp2_with fail
   go_roundw
   case rel=>exact ⟨j+1,_,_,by omega,by go_num,by rw [trs_append,putA_tr,HTU.out,HTR.out,reps_succ],HR6.out⟩
   case measure=>simp [intOf];omega
  ·obtain rfl:j=nn:=by omega
   have hlt2:¬((j:Int) < mn):=by have:=HNN.out;omega
   have hba:Below wr.heap.size wr (wr.alloc (.cells #[.int .i64 1,.slice none 0 0,.int .i64 0,.slice none 0 0,.int .i64 0,.int .i64 0,.bool false,.int .i64 0,.string ⟨#[]⟩] 25)):=(zzb _ _).alloc (zzF _) _
   have HO:=zzA (HR.out.more (g:=wr.heap.size) hba (zzF _) (by simp))
   have HOB:=zzA (Blk.new wr 25 [.int .i64 1,.slice none 0 0,.int .i64 0,.slice none 0 0,.int .i64 0,.int .i64 0,.bool false,.int .i64 0,.string ⟨#[]⟩])
   have HB3:=zzA HR.out.row.blk.lt
   have t4:(wr.alloc (.cells #[.int .i64 1,.slice none 0 0,.int .i64 0,.slice none 0 0,.int .i64 0,.int .i64 0,.bool false,.int .i64 0,.string ⟨#[]⟩] 25)).cell? ⟨w.heap.size+1,4,none⟩=some (.int .i64 mn):=HO.out.tb.cell 4
   have t5:(wr.alloc (.cells #[.int .i64 1,.slice none 0 0,.int .i64 0,.slice none 0 0,.int .i64 0,.int .i64 0,.bool false,.int .i64 0,.string ⟨#[]⟩] 25)).cell? ⟨w.heap.size+1,5,none⟩=some (.int .i64 mx):=HO.out.tb.cell 5
   clear hba
   go_wp2_with fail
   clear t4 t5
   generalize wr.alloc (.cells #[.int .i64 1,.slice none 0 0,.int .i64 0,.slice none 0 0,.int .i64 0,.int .i64 0,.bool false,.int .i64 0,.string ⟨#[]⟩] 25)=wo at *
   clear HR hlt hlt2 hj
   generalize wr.heap.size=ob at *
   have hoB:=(HO.out.xs ob (by simp)).1
   go_loopw [24] (fun iv wq=>∃ (jj:Nat) (o:Ta),jj≤n2∧iv=.int .i64 (jj:Int)∧o.tr=optS (Ta.mk k' r' ra' rc' a' l' sa' sc' n' m' z' i' s').tr z jj∧Blk wq ob 25 o.vals∧RT wq (Fr B ([w.heap.size+1+1,ob]++(w.heap.size+1+1+1) :: v.ownBlock.toList) wq) o∧US B [ob] w (Ta.mk k' r' ra' rc' a' l' sa' sc' n' m' z' i' s') (Ta.mk k r ra rc ast l sa sc mn mx z ix nm) v us wq) (fun iv _=>n2 - (intOf iv).toNat)
   case atStart=>exact ⟨0,Ta.mk 1 [] none 0 0 [] none 0 0 0 false 0 ⟨#[]⟩,zzZ _,rfl,rfl,HOB.out,RT.of ⟨RdA.none_,by simp,by simp,by decide⟩ RdA.none_ (by simp),HO.out⟩
   case round =>
    obtain ⟨jj,o,hi2,rfl,hot,hob,hor,hu⟩:=hrel
    have HU:=zzA hu
    have HOT:=zzA hot
    have HOBK:=zzA hob
    have HOR:=zzA hor
    clear hu hot hob hor
    by_cases hlt:jj < n2
    ·have hlt2:(jj:Int) < mx - mn:=(HDF.out jj).2 hlt
     have hba:Below wr.heap.size wr (wr.alloc (.cells #[.slice none 0 0] 108)):=(zzb _ _).alloc (zzF _) _
     have HUI:=zzA (HU.out.bel hba)
     have HRI:=zzA (show RowV B (wr.heap.size+1) ([w.heap.size+1+1,ob]++(w.heap.size+1+1+1) :: v.ownBlock.toList) wr.heap.size 108 f1 (.slice none 0 0) [] (wr.alloc (.cells #[.slice none 0 0] 108)) from ⟨Blk.new wr 108 [.slice none 0 0],World.ownsRow_nil _ _ _ _,by simp,by simp [Value.ownBlock]⟩)
     have HBI:=zzA hba
     have hsi:(wr.alloc (.cells #[.slice none 0 0] 108)).heap.size=wr.heap.size+1:=by simp
     have HXL:=zzA (us_lt HU.out)
     clear hba
     obtain ⟨y0,y1,y2,y3,y4,y5,y6,y7,y8⟩:=bc9 (HUI.out.yb)
     go_wp2_with fail
     generalize (wr.alloc (.cells #[.slice none 0 0] 108))=wi at *
     refine (copied_any (Ta.mk k' r' ra' rc' a' l' sa' sc' n' m' z' i' s') (Fr B ([w.heap.size+1+1,ob]++(w.heap.size+1+1+1) :: v.ownBlock.toList) wi) wi HUI.out.yt (fun b hb=>hb.2.1)).mono ?_
     rintro e w5 ⟨u5,rfl,htr5,hrt5,hb5⟩
     have hs5:=hb5.size
     have hwB:=zzU hB HU.out.below.size
     have HRT5:=zzA (hrt5.fr_in (B:=B) (L:=([w.heap.size+1+1,ob]++(w.heap.size+1+1+1) :: v.ownBlock.toList)++wr.heap.size :: (Value.slice none 0 0).ownBlock.toList) (by omega) (by intro x hx;rcases zzM.1 hx with hx | hx;have:=HXL.out x hx;omega;simp [Value.ownBlock] at hx;omega))
     have HR5:=zzA (show RowV B (wr.heap.size+1) ([w.heap.size+1+1,ob]++(w.heap.size+1+1+1) :: v.ownBlock.toList) wr.heap.size 108 f1 (.slice none 0 0) [] w5 from ⟨HRI.out.blk.below hb5 HRI.out.blk.lt,World.ownsRow_nil _ _ _ _,by simp,by simp [Value.ownBlock]⟩)
     have HB5:=zzA (HBI.out.trans (hb5.mono (by omega)))
     have HTR5:=zzA htr5
     clear hb5 hrt5 htr5 HUI HRI HBI y0 y1 y2 y3 y4 y5 y6 y7 y8
     simp only []
     go_wp2_with fail
     refine (put_any B (wr.heap.size+1) ([w.heap.size+1+1,ob]++(w.heap.size+1+1+1) :: v.ownBlock.toList) wr.heap.size (.slice none 0 0) [] u5 w5 HR5.out HRT5.out HR5.out.blk.lt (by simp) (fun hk=>by rw [Ta.subs_len,HTR5.out];rw [HTR5.out] at hk;have:=subs_pos HAL.out hk;omega)).mono ?_
     rintro e w6 ⟨rfl,v6,hrow6,hk6,hv6⟩
     rw [List.nil_append] at hrow6
     have hb6:Below wr.heap.size wr w6:=Below.kept HB5.out hk6 (by intro x hx;simp [Value.ownBlock] at hx;omega) HB5.out.size
     have hown6:∀ g,v6.ownBlock=some g→wr.heap.size < g:=fun g hg=>(hrow6.own.lt g hg).1
     have HOR6:=zzA (HOR.out.fr_kept (L':=([w.heap.size+1+1,ob]++(w.heap.size+1+1+1) :: v.ownBlock.toList)++wr.heap.size :: v6.ownBlock.toList) (Kept.of_below (L:=[]) hb6) (by simp) (by intro x hx;rcases zzM.1 hx with hx | hx;exact .inl hx;rcases zzN.1 hx with rfl | hx;exact .inr (.inl (zzF _));exact .inr (.inl (Nat.le_of_lt (hown6 x (by simpa using hx))))))
     have HOB6:=zzA (HOBK.out.below hb6 HOBK.out.lt)
     have HR6:=zzA hrow6
     have HB6:=zzA hb6
     have HOWN6:=zzA hown6
     have HL6:=zzA (show (putA u5).length≤1000000 from by rw [putA_len,HTR5.out];have h1:=HSZ.out;have h2:(putT (Ta.mk k' r' ra' rc' a' l' sa' sc' n' m' z' i' s').tr).length≤(j+1)*(putT (Ta.mk k' r' ra' rc' a' l' sa' sc' n' m' z' i' s').tr).length:=Nat.le_mul_of_pos_left _ (by omega);omega)
     clear hrow6 hk6 hv6 hb6 hown6 HR5 HRT5 HB5
     cases o with
     | mk k3 r3 ra3 rc3 a3 l3 sa3 sc3 n3 m3 z3 i3 s3 =>
     simp only [Ta.vals] at HOB6
     obtain ⟨o0,o1,o2,o3,o4,o5,o6,o7,o8⟩:=bc9 (HOB6.out)
     simp only []
     go_wp2_with fail
     refine (put_any B (wr.heap.size+1) ([w.heap.size+1+1,ob]++(w.heap.size+1+1+1) :: v.ownBlock.toList) wr.heap.size v6 (putA u5) (Ta.mk k3 r3 ra3 rc3 a3 l3 sa3 sc3 n3 m3 z3 i3 s3) w6 HR6.out HOR6.out HR6.out.blk.lt (zzU HL6.out (by decide)) (fun hk=>by rw [HOT.out] at hk;cases jj <;> simp [optS,emptyT,repT,Tr.kind] at hk)).mono ?_
     rintro e w7 ⟨rfl,v7,hrow7,hk7,hv7⟩
     have hb7:Below wr.heap.size wr w7:=Below.kept HB6.out hk7 (by intro x hx;rcases zzN.1 hx with rfl | hx;exact zzF _;exact Nat.le_of_lt (HOWN6.out x (by simpa using hx))) HB6.out.size
     have HR7:=zzA hrow7
     have HB7:=zzA hb7
     have HL7:=zzA (show (putA u5++putA (Ta.mk k3 r3 ra3 rc3 a3 l3 sa3 sc3 n3 m3 z3 i3 s3)).length≤1048576 from by rw [zzG];have h1:=HL6.out;have h2:(putA (Ta.mk k3 r3 ra3 rc3 a3 l3 sa3 sc3 n3 m3 z3 i3 s3)).length≤1:=(by rw [putA_len,HOT.out];cases jj <;> simp [optS,emptyT,repT,Tr.kind,putT]);omega)
     clear hrow7 hk7 hv7 hb7 HR6 HB6 HOB6 HOR6 o0 o1 o2 o3 o4 o5 o6 o7 o8
     simp only []
     go_wp2_with fail
     refine (tree_any B (wr.heap.size+1) ([w.heap.size+1+1,ob]++(w.heap.size+1+1+1) :: v.ownBlock.toList) wr.heap.size v7 (putA u5++putA (Ta.mk k3 r3 ra3 rc3 a3 l3 sa3 sc3 n3 m3 z3 i3 s3)) w7 HR7.out (by omega) (by intro x hx;have:=HXL.out x hx;omega) HL7.out).mono ?_
     rintro e w8 ⟨u8,rfl,htr8,hrt8,hb8⟩
     have hlt7:=HR7.out.blk.lt
     have hlt78:=hb8.size
     have hb78:=HB7.out.trans (hb8.mono HB7.out.size)
     have HB8:=zzA hb78
     have HU8:=zzA (HU.out.bel hb78)
     have HRT8:=zzA hrt8
     have HTR8:=zzA (htr8.trans (by rw [trs_append,putA_tr,putA_tr,HTR5.out,HOT.out]))
     clear htr8 hrt8 hb8 hb78 HR7 HB7
     simp only []
     go_wp2_with fail
     have hz:w8.cell? ⟨w.heap.size+1,6,none⟩=some (.bool z):=HU8.out.tb.cell 6
     have hlt8:=HB8.out.size
     refine (rep_any B (([w.heap.size+1+1,ob]++(w.heap.size+1+1+1) :: v.ownBlock.toList)++[wr.heap.size]) u8 (w.heap.size+1) 0 1 z w8 hz HRT8.out (by omega) (by have h0:=(show wr.heap.size < w8.heap.size from by omega);intro x hx;rcases zzM.1 hx with hx | hx;have:=HXL.out x hx;omega;simp at hx;omega)).mono ?_
     rintro e w9 ⟨v9,rfl,htr9,hrt9,hb9⟩
     have hb89:=HB8.out.trans (hb9.mono HB8.out.size)
     have HU9:=zzA (HU.out.bel hb89)
     have HOB9:=zzA (HOBK.out.below hb89 HOBK.out.lt)
     have HRT9:=zzA hrt9
     have HTR9:=zzA (htr9.trans (by rw [HTR8.out]))
     clear htr9 hrt9 hb9 hb89 hz HU8 HRT8
     simp only [Ta.vals] at HOB9
     cases v9 with
     | mk k2 r2 ra2 rc2 a2 l2 sa2 sc2 n2 m2 z2 i2 s2 =>
     obtain ⟨q0,q1,q2,q3,q4,q5,q6,q7,q8⟩:=bc9 (HOB9.out)
     have fz0:=HOB9.out.frozen 0
     have fz1:=HOB9.out.frozen 1
     have fz2:=HOB9.out.frozen 2
     have fz3:=HOB9.out.frozen 3
     have fz4:=HOB9.out.frozen 4
     have fz5:=HOB9.out.frozen 5
     have fz6:=HOB9.out.frozen 6
     have fz7:=HOB9.out.frozen 7
     have fz8:=HOB9.out.frozen 8
     have fz9:=HOB9.out.lt
     simp only [Ta.val,Ta.vals]
     go_wp2_with fail
     go_roundw
     case rel =>
      have hk10:=kept9 w9 ob 0 (.int .i64 k2) (.slice ra2 r2.length rc2) (.int .i64 a2) (.slice sa2 l2.length sc2) (.int .i64 n2) (.int .i64 m2) (.bool z2) (.int .i64 i2) (.string s2)
      refine ⟨jj+1,Ta.mk k2 r2 ra2 rc2 a2 l2 sa2 sc2 n2 m2 z2 i2 s2,by omega,by go_num,HTR9.out,(show Blk (((((((((w9.setCell ⟨ob,0,none⟩ (.int .i64 k2)).setCell ⟨ob,1,none⟩ (.slice ra2 r2.length rc2)).setCell ⟨ob,2,none⟩ (.int .i64 a2)).setCell ⟨ob,3,none⟩ (.slice sa2 l2.length sc2)).setCell ⟨ob,4,none⟩ (.int .i64 n2)).setCell ⟨ob,5,none⟩ (.int .i64 m2)).setCell ⟨ob,6,none⟩ (.bool z2)).setCell ⟨ob,7,none⟩ (.int .i64 i2)).setCell ⟨ob,8,none⟩ (.string s2)) ob 25 (Ta.mk k2 r2 ra2 rc2 a2 l2 sa2 sc2 n2 m2 z2 i2 s2).vals from (((((((((HOB9.out.set_ 0 (.int .i64 k2)).set_ 1 (.slice ra2 r2.length rc2)).set_ 2 (.int .i64 a2)).set_ 3 (.slice sa2 l2.length sc2)).set_ 4 (.int .i64 n2)).set_ 5 (.int .i64 m2)).set_ 6 (.bool z2)).set_ 7 (.int .i64 i2)).set_ 8 (.string s2))),HRT9.out.fr_kept hk10 (by simp) (fun x hx=>.inl (zzW _ hx)),HU9.out.setb (by simp) hk10⟩
     case measure=>simp [intOf];omega

    ·have hlt2:¬((jj:Int) < mx - mn):=fun h=>hlt ((HDF.out jj).1 h)
     obtain rfl:jj=n2:=by omega
     have HUL:=zzA HU.out.less
     have HOL:=zzA (HOR.out.fr_less (L':=[w.heap.size+1+1]++(w.heap.size+1+1+1) :: v.ownBlock.toList) (by intro x hx;simp at hx ⊢;rcases hx with h | h;exact .inl h;exact .inr (.inr h)))
     cases o with
     | mk k3 r3 ra3 rc3 a3 l3 sa3 sc3 n3 m3 z3 i3 s3 =>
     simp only [Ta.vals] at HOBK
     obtain ⟨o0,o1,o2,o3,o4,o5,o6,o7,o8⟩:=bc9 (HOBK.out)
     go_wp2_with fail
     refine (put_any B (w.heap.size+1+1+1+1) [w.heap.size+1+1] (w.heap.size+1+1+1) v us (Ta.mk k3 r3 ra3 rc3 a3 l3 sa3 sc3 n3 m3 z3 i3 s3) wr HUL.out.row HOL.out HUL.out.row.blk.lt (zzU HLN.out (by decide)) (fun hk=>by rw [HOT.out] at hk;cases jj <;> simp [optS,emptyT,repT,Tr.kind] at hk)).mono ?_
     rintro e w6 ⟨rfl,v6,hrow6,hk6,hv6⟩
     have HR6:=zzA (HUL.out.put hrow6 hk6 hv6)
     have hl6:(us++putA (Ta.mk k3 r3 ra3 rc3 a3 l3 sa3 sc3 n3 m3 z3 i3 s3)).length≤1048576:=by rw [zzG];have h1:=HLN.out;have h2:(putA (Ta.mk k3 r3 ra3 rc3 a3 l3 sa3 sc3 n3 m3 z3 i3 s3)).length≤1:=(by rw [putA_len,HOT.out];cases jj <;> simp [optS,emptyT,repT,Tr.kind,putT]);omega
     clear hrow6 hk6 hv6 o0 o1 o2 o3 o4 o5 o6 o7 o8
     simp only []
     go_wp2_with fail
     refine (tree_any B (w.heap.size+1+1+1+1) [w.heap.size+1+1] (w.heap.size+1+1+1) v6 (us++putA (Ta.mk k3 r3 ra3 rc3 a3 l3 sa3 sc3 n3 m3 z3 i3 s3)) w6 HR6.out.row (by omega) (by intro x hx;simp at hx;omega) hl6).mono ?_
     rintro e w7 ⟨u7,rfl,htr7,hrt7,hb7⟩
     have HR7:=zzA (HR6.out.bel hb7)
     have HRT7:=zzA hrt7
     have HTR7:=zzA (htr7.trans (by rw [trs_append,putA_tr,HOT.out,HTU.out]))
     clear hrt7 htr7 hb7 hl6
     cases u7 with
     | mk k2 r2 ra2 rc2 a2 l2 sa2 sc2 n2 m2 z2 i2 s2 =>
     obtain ⟨q0,q1,q2,q3,q4,q5,q6,q7,q8⟩:=bc9 (HR7.out.res)
     have fz0:=HR7.out.res.frozen 0
     have fz1:=HR7.out.res.frozen 1
     have fz2:=HR7.out.res.frozen 2
     have fz3:=HR7.out.res.frozen 3
     have fz4:=HR7.out.res.frozen 4
     have fz5:=HR7.out.res.frozen 5
     have fz6:=HR7.out.res.frozen 6
     have fz7:=HR7.out.res.frozen 7
     have fz8:=HR7.out.res.frozen 8
     have fz9:=HR7.out.res.lt
     simp only [Ta.val,Ta.vals]
     go_wp2_with fail
     refine bodyPost_ret (node_ret rfl _ _ (w.heap.size+1+1) (Ta.mk k2 r2 ra2 rc2 a2 l2 sa2 sc2 n2 m2 z2 i2 s2) rfl (show Blk (((((((((w7.setCell ⟨w.heap.size+1+1,0,none⟩ (.int .i64 k2)).setCell ⟨w.heap.size+1+1,1,none⟩ (.slice ra2 r2.length rc2)).setCell ⟨w.heap.size+1+1,2,none⟩ (.int .i64 a2)).setCell ⟨w.heap.size+1+1,3,none⟩ (.slice sa2 l2.length sc2)).setCell ⟨w.heap.size+1+1,4,none⟩ (.int .i64 n2)).setCell ⟨w.heap.size+1+1,5,none⟩ (.int .i64 m2)).setCell ⟨w.heap.size+1+1,6,none⟩ (.bool z2)).setCell ⟨w.heap.size+1+1,7,none⟩ (.int .i64 i2)).setCell ⟨w.heap.size+1+1,8,none⟩ (.string s2)) (w.heap.size+1+1) 25 (Ta.mk k2 r2 ra2 rc2 a2 l2 sa2 sc2 n2 m2 z2 i2 s2).vals from (((((((((HR7.out.res.set_ 0 (.int .i64 k2)).set_ 1 (.slice ra2 r2.length rc2)).set_ 2 (.int .i64 a2)).set_ 3 (.slice sa2 l2.length sc2)).set_ 4 (.int .i64 n2)).set_ 5 (.int .i64 m2)).set_ 6 (.bool z2)).set_ 7 (.int .i64 i2)).set_ 8 (.string s2)))) rfl ?_
     refine ⟨Ta.mk k2 r2 ra2 rc2 a2 l2 sa2 sc2 n2 m2 z2 i2 s2,rfl,HTR7.out,HRT7.out.fr_kept (kept9 w7 (w.heap.size+1+1) 0 (.int .i64 k2) (.slice ra2 r2.length rc2) (.int .i64 a2) (.slice sa2 l2.length sc2) (.int .i64 n2) (.int .i64 m2) (.bool z2) (.int .i64 i2) (.string s2)) (by simp) (by simp),Below.kept HR7.out.below (kept9 w7 (w.heap.size+1+1) 0 (.int .i64 k2) (.slice ra2 r2.length rc2) (.int .i64 a2) (.slice sa2 l2.length sc2) (.int .i64 n2) (.int .i64 m2) (.bool z2) (.int .i64 i2) (.string s2)) (by intro b hb;simp at hb;omega) HR7.out.below.size⟩
end Go.Proofs.Ytkhkllpdhnmhkaa
namespace Go.Proofs.Ytkhkllpdhnmhkaa
open Go.RowKit Tr
theorem unfoldedT_any (B:Nat) (y t:Ta) (w:World) (hy:RT w (Fr B [] w) y) (hB:B≤w.heap.size) (hal:allB y.tr=true) (h0:0≤t.tr.mn) (h1:t.tr.mn≤1000) (hx:t.tr.mx≤1000) (hsy:size y.tr≤200000) (hs:size (unfoldS y.tr t.tr.mn t.tr.mx t.tr.lz)≤200000) :
  Calls Try.prog 59 #[y.val,t.val] w fun e w'=>∃ u:Ta,e=.returned u.val∧u.tr=unfoldS y.tr t.tr.mn t.tr.mx t.tr.lz∧RT w' (Fr B [] w') u∧Below w.heap.size w w':=by
 have hp:(putT y.tr).length≤200000:=by
  have:=size_pos y.tr
  unfold putT
  by_cases k1:y.tr.kind=1
  ·rw [if_pos k1];simp
  ·by_cases k4:y.tr.kind=4
   ·rw [if_neg k1,if_pos k4]
    have h2:=len_sizes y.tr.subs
    have h3:sizes y.tr.subs+1=size y.tr:=by cases y.tr with | mk k r a l n m z i s=>rw [size];rfl
    omega
   ·rw [if_neg k1,if_neg k4];simp
 cases t with
 | mk k r ra rc ast l sa sc mn mx z ix nm =>
 simp only [Ta.tr,Tr.mn,Tr.mx,Tr.lz] at h0 h1 hx hs ⊢
 unfold unfoldS at hs ⊢
 by_cases hm:mx < 0
 ·by_cases hz:mn=0
  ·rw [if_pos ⟨hm,hz⟩]
   exact unfT_star B y k r ra rc ast l sa sc mn mx z ix nm w hy hB hm (by rw [hz];rfl)
  ·rw [if_neg (fun h=>hz h.2),if_pos hm] at hs ⊢
   refine unfT_plus B y k r ra rc ast l sa sc mn mx z ix nm w hy hB hal hm (beq_eq_false_iff_ne.2 hz) h0 h1 ?_
   have h2:=row_len (repsT (putT y.tr) (mn - 1).toNat++putT (repT y.tr 1 (-1) z))
   rw [zzG,reps_len] at h2
   have h3:size (row (repsT (putT y.tr) (mn - 1).toNat++putT (repT y.tr 1 (-1) z)))≤200000:=hs
   rw [Nat.add_mul,Nat.one_mul]
   omega
 ·rw [if_neg (fun h=>hm h.1),if_neg hm] at hs ⊢
  refine unfT_opt B y k r ra rc ast l sa sc mn mx z ix nm w hy hB hal (by omega) hx h0 h1 ?_
  have h2:=row_len (repsT (putT y.tr) mn.toNat++putT (optS y.tr z (mx - mn).toNat))
  rw [zzG,reps_len] at h2
  have h3:size (row (repsT (putT y.tr) mn.toNat++putT (optS y.tr z (mx - mn).toNat)))≤200000:=hs
  rw [Nat.add_mul,Nat.one_mul]
  omega
end Go.Proofs.Ytkhkllpdhnmhkaa
namespace Go.Proofs.Ytkhkllpdhnmhkaa
open Go.RowKit Tr
def f2:Value→List Value:=fun v=>[.int .i64 5,.slice none 0 0,.int .i64 0,v,.int .i64 0,.int .i64 0,.bool false,.int .i64 0,.string ⟨#[]⟩]
def putB:Ta→List Ta
 | .mk k r ra rc a l sa sc n m z i s=>if k=5 then l else [.mk k r ra rc a l sa sc n m z i s]
theorem putB_tr (t:Ta):trs (putB t)=altPut t.tr:=by
 cases t with
 | mk k r ra rc ast l sa sc mn mx z ix nm =>
  rw [putB,Ta.tr]
  by_cases h4:k=5
  ·rw [if_pos h4];exact (if_pos (show (Tr.mk k r ast (trs l) mn mx z ix nm).kind=5 from h4)).symm
  ·rw [if_neg h4];exact (if_neg (show ¬(Tr.mk k r ast (trs l) mn mx z ix nm).kind=5 from h4)).symm
theorem alt_finA {B Bo rb g cap c:Nat} {X:List Nat} {A:Option Addr} {us:List Ta} {t:Ta} {w w2:World} (hr:RowV B Bo X rb 25 f2 (.slice A us.length c) us w) (ht:RT w (Fr B (X++rb :: (Value.slice A us.length c).ownBlock.toList) w) t)
  (hk0:Kept w w2 (Value.slice A us.length c).ownBlock.toList) (hgo:(Value.slice A us.length c).ownBlock=some g∨w.heap.size≤g) (hgr:g≠rb) {v0:Value}
  (hb:Blk w2 rb 25 (f2 v0)) (ho:w2.ownsRow Bo 25 9 (.slice (some ⟨g,0,none⟩) (us.length+1) cap) (us.length+1) (rowT (us++[zT]))) {k r a s nn m z x nm:Value} (hu:t.vals=[k,r,a,s,nn,m,z,x,nm]) :
  ∃ v',RowV B Bo X rb 25 f2 v' (us++[t]) ((((((((((w2.setCell ⟨g,us.length*9,none⟩ k).setCell ⟨g,us.length*9+1,none⟩ r).setCell ⟨g,us.length*9+2,none⟩ a).setCell ⟨g,us.length*9+3,none⟩ s).setCell ⟨g,us.length*9+4,none⟩ nn).setCell ⟨g,us.length*9+5,none⟩ m).setCell ⟨g,us.length*9+6,none⟩ z).setCell ⟨g,us.length*9+7,none⟩ x).setCell ⟨g,us.length*9+8,none⟩ nm).setCell ⟨rb,3,none⟩ (.slice (some ⟨g,0,none⟩) (us.length+1) cap))∧Kept w ((((((((((w2.setCell ⟨g,us.length*9,none⟩ k).setCell ⟨g,us.length*9+1,none⟩ r).setCell ⟨g,us.length*9+2,none⟩ a).setCell ⟨g,us.length*9+3,none⟩ s).setCell ⟨g,us.length*9+4,none⟩ nn).setCell ⟨g,us.length*9+5,none⟩ m).setCell ⟨g,us.length*9+6,none⟩ z).setCell ⟨g,us.length*9+7,none⟩ x).setCell ⟨g,us.length*9+8,none⟩ nm).setCell ⟨rb,3,none⟩ (.slice (some ⟨g,0,none⟩) (us.length+1) cap)) (rb :: (Value.slice A us.length c).ownBlock.toList)∧(v'.ownBlock=(Value.slice A us.length c).ownBlock∨∃ g,v'.ownBlock=some g∧w.heap.size≤g):=by
 have hil:us.length < (us++[zT]).length:=by rw [zzG];simp
 have hse:(us++[zT]).set us.length t=us++[t]:=by rw [List.set_append_right _ _ (zzF _),Nat.sub_self];rfl
 refine put_fin (cap:=cap) hr ht hk0 (((kept9 w2 g (us.length*9) k r a s nn m z x nm).trans (Kept.setCell ⟨rb,3,none⟩ _)).more (by intro k hk;simp at hk ⊢;exact .inl hk.symm)) hgo hgr ?_ ?_
 ·exact (hb.kept (kept9 w2 g (us.length*9) k r a s nn m z x nm) (by simpa using hgr.symm)).set_ 3 (.slice (some ⟨g,0,none⟩) (us.length+1) cap)
 ·rw [←hse]
  exact own_kept (own_set9 ho hil hu) (Kept.setCell ⟨rb,3,none⟩ (.slice (some ⟨g,0,none⟩) (us.length+1) cap)) (fun x hx hm=>by simp [Value.ownBlock] at hx hm;exact hgr (by rw [hx,hm]))
theorem alt_finB {B Bo rb g cap c:Nat} {X:List Nat} {A:Option Addr} {us:List Ta} {t:Ta} {w w2:World} (hr:RowV B Bo X rb 25 f2 (.slice A us.length c) us w) (ht:RT w (Fr B (X++rb :: (Value.slice A us.length c).ownBlock.toList) w) t)
  (hk0:Kept w w2 (Value.slice A us.length c).ownBlock.toList) (hgo:(Value.slice A us.length c).ownBlock=some g∨w.heap.size≤g) (hgr:g≠rb) {v0:Value}
  (hb:Blk w2 rb 25 (f2 v0)) (ho:w2.ownsRow Bo 25 9 (.slice (some ⟨g,0,none⟩) (us.length+1) cap) (us.length+1) (rowT (us++[zT]))) {k r a s nn m z x nm:Value} (hu:t.vals=[k,r,a,s,nn,m,z,x,nm]) :
  ∃ v',RowV B Bo X rb 25 f2 v' (us++[t]) ((((((((((w2.setCell ⟨rb,3,none⟩ (.slice (some ⟨g,0,none⟩) (us.length+1) cap)).setCell ⟨g,us.length*9,none⟩ k).setCell ⟨g,us.length*9+1,none⟩ r).setCell ⟨g,us.length*9+2,none⟩ a).setCell ⟨g,us.length*9+3,none⟩ s).setCell ⟨g,us.length*9+4,none⟩ nn).setCell ⟨g,us.length*9+5,none⟩ m).setCell ⟨g,us.length*9+6,none⟩ z).setCell ⟨g,us.length*9+7,none⟩ x).setCell ⟨g,us.length*9+8,none⟩ nm)∧Kept w ((((((((((w2.setCell ⟨rb,3,none⟩ (.slice (some ⟨g,0,none⟩) (us.length+1) cap)).setCell ⟨g,us.length*9,none⟩ k).setCell ⟨g,us.length*9+1,none⟩ r).setCell ⟨g,us.length*9+2,none⟩ a).setCell ⟨g,us.length*9+3,none⟩ s).setCell ⟨g,us.length*9+4,none⟩ nn).setCell ⟨g,us.length*9+5,none⟩ m).setCell ⟨g,us.length*9+6,none⟩ z).setCell ⟨g,us.length*9+7,none⟩ x).setCell ⟨g,us.length*9+8,none⟩ nm) (rb :: (Value.slice A us.length c).ownBlock.toList)∧(v'.ownBlock=(Value.slice A us.length c).ownBlock∨∃ g,v'.ownBlock=some g∧w.heap.size≤g):=by
 have hil:us.length < (us++[zT]).length:=by rw [zzG];simp
 have hse:(us++[zT]).set us.length t=us++[t]:=by rw [List.set_append_right _ _ (zzF _),Nat.sub_self];rfl
 refine put_fin (cap:=cap) hr ht hk0 (((Kept.setCell ⟨rb,3,none⟩ _).trans (kept9 _ g (us.length*9) k r a s nn m z x nm)).more (by intro k hk;simp at hk ⊢;exact .inl hk)) hgo hgr ?_ ?_
 ·exact (hb.set_ 3 (.slice (some ⟨g,0,none⟩) (us.length+1) cap)).kept (kept9 _ g (us.length*9) k r a s nn m z x nm) (by simpa using hgr.symm)
 ·rw [←hse]
  exact own_set9 (own_kept ho (Kept.setCell (w:=w2) ⟨rb,3,none⟩ (.slice (some ⟨g,0,none⟩) (us.length+1) cap)) (fun x hx hm=>by simp [Value.ownBlock] at hx hm;exact hgr (by rw [hx,hm]))) hil hu
set_option maxRecDepth 100000 in
set_option maxHeartbeats 2000000 in
theorem alt_any (B Bo:Nat) (X:List Nat) (rb:Nat) (v:Value) (us:List Ta) (t:Ta) (w:World) (hr:RowV B Bo X rb 25 f2 v us w) (ht:RT w (Fr B (X++rb :: v.ownBlock.toList) w) t) (hB:Bo≤w.heap.size) (hn:us.length≤1048576) (h4:t.tr.kind=5→0 < t.subs.length) :
  Calls Try.prog 58 #[t.val,.pointer (some ⟨rb,0,none⟩)] w fun e w'=>e=.returned (.tuple #[])∧∃ v',RowV B Bo X rb 25 f2 v' (us++putB t) w'∧Kept w w' (rb :: v.ownBlock.toList)∧(v'.ownBlock=v.ownBlock∨∃ g,v'.ownBlock=some g∧w.heap.size≤g):=by
 obtain ⟨i0,hi,hz0,hz1,hz2⟩:=info_parts info_clone_nodes
 obtain ⟨A,c,rfl⟩:=own_shape hr.own
 cases t with
 | mk k r ra rc ast l sa sc mn mx z ix nm =>
 obtain ⟨⟨hR,hrl,hll,hnm⟩,hN,hL⟩:=ht.parts
 have hrb:=hr.blk.lt
 have hba:Below w.heap.size w (w.alloc (.cells #[.int .i64 k,.slice ra r.length rc,.int .i64 ast,.slice sa l.length sc,.int .i64 mn,.int .i64 mx,.bool z,.int .i64 ix,.string nm] 25)):=(zzb _ _).alloc (zzF _) _
 have hways:(k==5)=true∨(k==5)=false:=by
  cases (k==5) <;> simp
 rcases hways with h2 | h2
 ·have hk4:k=5:=by simpa using h2
  have hp:putB (Ta.mk k r ra rc ast l sa sc mn mx z ix nm)=l:=by rw [putB,if_pos hk4]
  rw [hp]
  have hlp:0 < l.length:=h4 hk4
  clear hk4 hp
  have hb1:=hr.blk.alloc (.cells #[.int .i64 k,.slice ra r.length rc,.int .i64 ast,.slice sa l.length sc,.int .i64 mn,.int .i64 mx,.bool z,.int .i64 ix,.string nm] 25)
  have ho1:=own_below hr.own hba
  have ht1:=Blk.new w 25 [.int .i64 k,.slice ra r.length rc,.int .i64 ast,.slice sa l.length sc,.int .i64 mn,.int .i64 mx,.bool z,.int .i64 ix,.string nm]
  obtain ⟨b,off,rfl,hSb,hcb⟩:=hN.2.2.2.2 hlp
  have hnews:∀ j u,(rowT l)[j]?=some u→(w.alloc (.cells #[.int .i64 k,.slice ra r.length rc,.int .i64 ast,.slice (some ⟨b,off,none⟩) l.length sc,.int .i64 mn,.int .i64 mx,.bool z,.int .i64 ix,.string nm] 25)).cell? ((⟨b,off,none⟩:Addr).add j)=some u:=fun j u hu=>by
   rw [add_lit]
   exact (hba.cell (p:=⟨b,off+j,none⟩) hSb.2.1).trans (hcb j u hu)
  have hbs:Bo≤(w.alloc (.cells #[.int .i64 k,.slice ra r.length rc,.int .i64 ast,.slice (some ⟨b,off,none⟩) l.length sc,.int .i64 mn,.int .i64 mx,.bool z,.int .i64 ix,.string nm] 25)).heap.size:=zzU hB hba.size
  have hsz1:=hba.size
  have e0:(w.alloc (.cells #[.int .i64 k,.slice ra r.length rc,.int .i64 ast,.slice (some ⟨b,off,none⟩) l.length sc,.int .i64 mn,.int .i64 mx,.bool z,.int .i64 ix,.string nm] 25)).cell? ⟨rb,3,none⟩=some (.slice A us.length c):=hb1.cell 3
  have HR:=zzA hr
  have HLL:=zzA hL
  have HBA:=zzA hba
  have HB1:=zzA hb1
  have HO1:=zzA ho1
  have HNW:=zzA hnews
  clear hr hL hba hR hN ht hcb hb1 ho1 ht1 hnews
  simp only [Ta.val,Ta.vals]
  go_enter Try.func58,Try.ntmps58
  go_wp2_with (at_builtin;refine wpList_append_lies _ rfl (.tmp 7) (.tmp 9) 23 rfl Bo 25 i0 (.agg #[.int .i64 0,.slice none 0 0,.int .i64 0,.slice none 0 0,.int .i64 0,.int .i64 0,.bool false,.int .i64 0,.string ⟨#[]⟩]) 9 112 Try.underlying23 hi hz0 hz1 hz2 rfl (by decide) (.slice A us.length c) us.length (rowT us) rfl HO1.out ⟨b,off,none⟩ l.length sc (rowT l) rfl (rowT_length l) HNW.out (rowT_one l) hlp (by unfold maxLen;omega) (by omega) hbs _ rfl ?_;intro g cap2 w2 hou2 hg2 hat2 hlt2;have HB2:=zzA (HB1.out.grown hg2 HR.out.sep.symm);have q1:w2.cell? ⟨rb,3,none⟩=some (.slice A us.length c):=HB2.out.cell 3;have q2:=HB2.out.frozen 3;have q3:=HB2.out.lt;have HOU:=zzA hou2;have HG2:=zzA hg2;have HAT:=zzA hat2;clear hou2 hg2 hat2)
  all_goals
   go_end0
   have hou2:=HOU.out
   have hg2:=HG2.out
   have hat2:=HAT.out
   have hb2:=HB2.out
   have hk:Kept w (w2.setCell ⟨rb,3,none⟩ (.slice (some ⟨g,0,none⟩) (us.length+l.length) cap2)) (rb :: (Value.slice A us.length c).ownBlock.toList) :=
    (((Kept.of_below (L:=[]) HBA.out).trans (Kept.of_grown' hg2)).trans (Kept.setCell _ _)).more (by intro k hk;simp at hk ⊢;rcases hk with h | h;exact .inl (.inr h);exact .inl (.inl h))
   have hgo:(Value.slice A us.length c).ownBlock=some g∨w.heap.size≤g:=hat2.imp id fun h=>by rw [h];exact hsz1
   have hgr:g≠rb:=fun e=>by
    rcases hgo with h | h
    ·exact HR.out.sep (by rw [h,e])
    ·omega
   have hL':∀ x∈X++rb :: ((Value.slice (some ⟨g,0,none⟩) (us.length+l.length) cap2).ownBlock).toList,x∈X++rb :: (Value.slice A us.length c).ownBlock.toList∨w.heap.size≤x∨x < B:=fun x hx=>by
    simp only [Value.ownBlock,Option.toList_some,zzM,zzN,List.not_mem_nil,or_false] at hx
    rcases hx with hx | rfl | rfl
    ·exact .inl (zzW _ hx)
    ·exact .inl (by simp)
    ·rcases hgo with h | h
     ·exact .inl (by rw [h];simp)
     ·exact .inr (.inl h)
   refine ⟨rfl,.slice (some ⟨g,0,none⟩) (us.length+l.length) cap2,⟨hb2.set_ 3 _,?_,?_,fun h=>hgr (by simpa [Value.ownBlock] using h)⟩,hk,?_⟩
   ·rw [zzG,rowT_append]
    exact own_kept hou2 (Kept.setCell (w:=w2) ⟨rb,3,none⟩ _) (fun x hx hm=>by simp [Value.ownBlock] at hx hm;exact hgr (by rw [hx,hm]))
   ·intro u hu
    rcases zzM.1 hu with hu | hu
    ·exact (HR.out.els u hu).fr_kept hk (fun x hx=>.inl (zzV _ hx)) hL'
    ·exact (HLL.out u hu).fr_kept hk (fun x hx=>.inl (zzV _ hx)) hL'
   ·rcases hgo with h | h
    ·exact .inl h.symm
    ·exact .inr ⟨g,rfl,h⟩
 ·have hk4:¬k=5:=by simpa using h2
  have hp:putB (Ta.mk k r ra rc ast l sa sc mn mx z ix nm)=[Ta.mk k r ra rc ast l sa sc mn mx z ix nm]:=by rw [putB,if_neg hk4]
  rw [hp]
  clear hk4 hp
  have hb1:=hr.blk.alloc (.cells #[.int .i64 k,.slice ra r.length rc,.int .i64 ast,.slice sa l.length sc,.int .i64 mn,.int .i64 mx,.bool z,.int .i64 ix,.string nm] 25)
  have ho1:=own_below hr.own hba
  have ht1:=Blk.new w 25 [.int .i64 k,.slice ra r.length rc,.int .i64 ast,.slice sa l.length sc,.int .i64 mn,.int .i64 mx,.bool z,.int .i64 ix,.string nm]
  have hbs0:Bo≤(w.alloc (.cells #[.int .i64 k,.slice ra r.length rc,.int .i64 ast,.slice sa l.length sc,.int .i64 mn,.int .i64 mx,.bool z,.int .i64 ix,.string nm] 25)).heap.size:=zzU hB hba.size
  have hsz1:=hba.size
  simp only [Ta.val,Ta.vals]
  go_enter Try.func58,Try.ntmps58
  go_wp2_with fail
  have HT:=zzA ht
  generalize (w.alloc (.cells #[.int .i64 k,.slice ra r.length rc,.int .i64 ast,.slice sa l.length sc,.int .i64 mn,.int .i64 mx,.bool z,.int .i64 ix,.string nm] 25))=w1 at *
  have hb2:=hb1.alloc (.cells #[.int .i64 0,.slice none 0 0,.int .i64 0,.slice none 0 0,.int .i64 0,.int .i64 0,.bool false,.int .i64 0,.string ⟨#[]⟩] 25)
  have ht2:=ht1.alloc (.cells #[.int .i64 0,.slice none 0 0,.int .i64 0,.slice none 0 0,.int .i64 0,.int .i64 0,.bool false,.int .i64 0,.string ⟨#[]⟩] 25)
  have hb12:Below w1.heap.size w1 (w1.alloc (.cells #[.int .i64 0,.slice none 0 0,.int .i64 0,.slice none 0 0,.int .i64 0,.int .i64 0,.bool false,.int .i64 0,.string ⟨#[]⟩] 25)):=(zzb _ _).alloc (zzF _) _
  have ho2:=own_below ho1 hb12
  have hbs:Bo≤(w1.alloc (.cells #[.int .i64 0,.slice none 0 0,.int .i64 0,.slice none 0 0,.int .i64 0,.int .i64 0,.bool false,.int .i64 0,.string ⟨#[]⟩] 25)).drew.heap.size:=zzU hbs0 hb12.size
  have HSZ:=zzA (show w.heap.size≤(w1.alloc (.cells #[.int .i64 0,.slice none 0 0,.int .i64 0,.slice none 0 0,.int .i64 0,.int .i64 0,.bool false,.int .i64 0,.string ⟨#[]⟩] 25)).drew.heap.size from zzU hsz1 hb12.size)
  have e0:w1.drew.cell? ⟨rb,3,none⟩=some (.slice A us.length c):=hb1.cell 3
  have e0':(w1.alloc (.cells #[.int .i64 0,.slice none 0 0,.int .i64 0,.slice none 0 0,.int .i64 0,.int .i64 0,.bool false,.int .i64 0,.string ⟨#[]⟩] 25)).drew.cell? ⟨rb,3,none⟩=some (.slice A us.length c):=hb2.cell 3
  obtain ⟨g0,g1,g2,g3,g4,g5,g6,g7,g8⟩:=bc9 (ht1)
  obtain ⟨f0,f2,f2,f3,f4,f5,f6,f7,f8⟩:=bc9 (ht2)
  have HR:=zzA hr
  have HBA:=zzA hba
  have HB2:=zzA hb2
  have HO2:=zzA ho2
  have HB12:=zzA hb12
  have hlt01:(us.length:Int) < (us.length:Int)+1:=by omega
  clear hr hL hba hR hN ht hb1 hb2 ht1 ht2 ho1 ho2 hb12
  go_region_law (first
   | (refine step_append_lies _ rfl (.tmp 13) (.tmp 16) 23 rfl Bo 25 i0 (.agg #[.int .i64 0,.slice none 0 0,.int .i64 0,.slice none 0 0,.int .i64 0,.int .i64 0,.bool false,.int .i64 0,.string ⟨#[]⟩]) 9 112 Try.underlying23 hi hz0 hz1 hz2 rfl (by decide) (.slice A us.length c) us.length (rowT us) rfl HO2.out.drew ⟨w1.heap.size,0,none⟩ 1 1 [.int .i64 0,.slice none 0 0,.int .i64 0,.slice none 0 0,.int .i64 0,.int .i64 0,.bool false,.int .i64 0,.string ⟨#[]⟩] rfl rfl (new_atT w1 _ [.int .i64 0,.slice none 0 0,.int .i64 0,.slice none 0 0,.int .i64 0,.int .i64 0,.bool false,.int .i64 0,.string ⟨#[]⟩]) zT_one (by decide) (by unfold maxLen;omega) (by omega) hbs _ rfl ?_;intro g cap2 w2 hou2 hg2 hat2 hlt2;have hgo:=at_old HSZ.out hat2;have hgr:g≠rb:=(fun e=>(by rcases hgo with h | h;exact HR.out.sep (by rw [h,e]);omega));have hb2:=HB2.out.drew.grown hg2 HR.out.sep.symm;have q1:w2.cell? ⟨rb,3,none⟩=some (.slice A us.length c):=hb2.cell 3;have q2:=hb2.frozen 3;have q3:=hb2.lt;have HOU:=zzA (own_zero hou2);have HOS:=zzA (own_kept HOU.out (Kept.setCell (w:=w2) ⟨rb,3,none⟩ (.slice (some ⟨g,0,none⟩) (us.length+1) cap2)) (fun x hx hm=>by simp [Value.ownBlock] at hx hm;exact hgr (by rw [hx,hm])));have d0:w2.cell? ⟨g,us.length*9,none⟩=some (.int .i64 0):=own_cell HOU.out (zT_at us 0 (by omega));have e0:=own_frozen HOU.out (us.length*9);have x0:(w2.setCell ⟨rb,3,none⟩ (.slice (some ⟨g,0,none⟩) (us.length+1) cap2)).cell? ⟨g,us.length*9,none⟩=some (.int .i64 0):=own_cell HOS.out (zT_at us 0 (by omega));have y0:=own_frozen HOS.out (us.length*9);have d1:w2.cell? ⟨g,us.length*9+1,none⟩=some (.slice none 0 0):=own_cell HOU.out (zT_at us 1 (by omega));have e1:=own_frozen HOU.out (us.length*9+1);have x1:(w2.setCell ⟨rb,3,none⟩ (.slice (some ⟨g,0,none⟩) (us.length+1) cap2)).cell? ⟨g,us.length*9+1,none⟩=some (.slice none 0 0):=own_cell HOS.out (zT_at us 1 (by omega));have y1:=own_frozen HOS.out (us.length*9+1);have d2:w2.cell? ⟨g,us.length*9+2,none⟩=some (.int .i64 0):=own_cell HOU.out (zT_at us 2 (by omega));have e2:=own_frozen HOU.out (us.length*9+2);have x2:(w2.setCell ⟨rb,3,none⟩ (.slice (some ⟨g,0,none⟩) (us.length+1) cap2)).cell? ⟨g,us.length*9+2,none⟩=some (.int .i64 0):=own_cell HOS.out (zT_at us 2 (by omega));have y2:=own_frozen HOS.out (us.length*9+2);have d3:w2.cell? ⟨g,us.length*9+3,none⟩=some (.slice none 0 0):=own_cell HOU.out (zT_at us 3 (by omega));have e3:=own_frozen HOU.out (us.length*9+3);have x3:(w2.setCell ⟨rb,3,none⟩ (.slice (some ⟨g,0,none⟩) (us.length+1) cap2)).cell? ⟨g,us.length*9+3,none⟩=some (.slice none 0 0):=own_cell HOS.out (zT_at us 3 (by omega));have y3:=own_frozen HOS.out (us.length*9+3);have d4:w2.cell? ⟨g,us.length*9+4,none⟩=some (.int .i64 0):=own_cell HOU.out (zT_at us 4 (by omega));have e4:=own_frozen HOU.out (us.length*9+4);have x4:(w2.setCell ⟨rb,3,none⟩ (.slice (some ⟨g,0,none⟩) (us.length+1) cap2)).cell? ⟨g,us.length*9+4,none⟩=some (.int .i64 0):=own_cell HOS.out (zT_at us 4 (by omega));have y4:=own_frozen HOS.out (us.length*9+4);have d5:w2.cell? ⟨g,us.length*9+5,none⟩=some (.int .i64 0):=own_cell HOU.out (zT_at us 5 (by omega));have e5:=own_frozen HOU.out (us.length*9+5);have x5:(w2.setCell ⟨rb,3,none⟩ (.slice (some ⟨g,0,none⟩) (us.length+1) cap2)).cell? ⟨g,us.length*9+5,none⟩=some (.int .i64 0):=own_cell HOS.out (zT_at us 5 (by omega));have y5:=own_frozen HOS.out (us.length*9+5);have d6:w2.cell? ⟨g,us.length*9+6,none⟩=some (.bool false):=own_cell HOU.out (zT_at us 6 (by omega));have e6:=own_frozen HOU.out (us.length*9+6);have x6:(w2.setCell ⟨rb,3,none⟩ (.slice (some ⟨g,0,none⟩) (us.length+1) cap2)).cell? ⟨g,us.length*9+6,none⟩=some (.bool false):=own_cell HOS.out (zT_at us 6 (by omega));have y6:=own_frozen HOS.out (us.length*9+6);have d7:w2.cell? ⟨g,us.length*9+7,none⟩=some (.int .i64 0):=own_cell HOU.out (zT_at us 7 (by omega));have e7:=own_frozen HOU.out (us.length*9+7);have x7:(w2.setCell ⟨rb,3,none⟩ (.slice (some ⟨g,0,none⟩) (us.length+1) cap2)).cell? ⟨g,us.length*9+7,none⟩=some (.int .i64 0):=own_cell HOS.out (zT_at us 7 (by omega));have y7:=own_frozen HOS.out (us.length*9+7);have d8:w2.cell? ⟨g,us.length*9+8,none⟩=some (.string ⟨#[]⟩):=own_cell HOU.out (zT_at us 8 (by omega));have e8:=own_frozen HOU.out (us.length*9+8);have x8:(w2.setCell ⟨rb,3,none⟩ (.slice (some ⟨g,0,none⟩) (us.length+1) cap2)).cell? ⟨g,us.length*9+8,none⟩=some (.string ⟨#[]⟩):=own_cell HOS.out (zT_at us 8 (by omega));have y8:=own_frozen HOS.out (us.length*9+8);have q5:(((((((((w2.setCell ⟨g,us.length*9,none⟩ (.int .i64 k)).setCell ⟨g,us.length*9+1,none⟩ (.slice ra r.length rc)).setCell ⟨g,us.length*9+2,none⟩ (.int .i64 ast)).setCell ⟨g,us.length*9+3,none⟩ (.slice sa l.length sc)).setCell ⟨g,us.length*9+4,none⟩ (.int .i64 mn)).setCell ⟨g,us.length*9+5,none⟩ (.int .i64 mx)).setCell ⟨g,us.length*9+6,none⟩ (.bool z)).setCell ⟨g,us.length*9+7,none⟩ (.int .i64 ix)).setCell ⟨g,us.length*9+8,none⟩ (.string nm)).cell? ⟨rb,3,none⟩=some (.slice A us.length c):=((kept9 w2 g (us.length*9) (.int .i64 k) (.slice ra r.length rc) (.int .i64 ast) (.slice sa l.length sc) (.int .i64 mn) (.int .i64 mx) (.bool z) (.int .i64 ix) (.string nm)).cell (p:=⟨rb,3,none⟩) q3 (by simpa using hgr.symm)).trans q1;have q6:=(hb2.kept (kept9 w2 g (us.length*9) (.int .i64 k) (.slice ra r.length rc) (.int .i64 ast) (.slice sa l.length sc) (.int .i64 mn) (.int .i64 mx) (.bool z) (.int .i64 ix) (.string nm)) (by simpa using hgr.symm)).frozen 3;have HGO:=zzA hgo;have HGR:=zzA hgr;have HB3:=zzA hb2;have HG2:=zzA hg2;clear hgo hgr hb2 hg2 hou2 hat2))
  all_goals
   have hk0:=((Kept.of_below (L:=[]) HBA.out).trans ((Kept.of_below (L:=[]) HB12.out).trans ((Kept.drew (L:=[])).trans (Kept.of_grown' HG2.out)))).more (M:=(Value.slice A us.length c).ownBlock.toList) (by intro k hk;simp at hk ⊢;exact .inl hk)
   have hu0:(Ta.mk k r ra rc ast l sa sc mn mx z ix nm).vals=[.int .i64 k,.slice ra r.length rc,.int .i64 ast,.slice sa l.length sc,.int .i64 mn,.int .i64 mx,.bool z,.int .i64 ix,.string nm]:=rfl
   go_end0
   refine ⟨rfl,?_⟩
   first
    | with_reducible exact alt_finA HR.out HT.out hk0 HGO.out HGR.out HB3.out HOU.out hu0
    | with_reducible exact alt_finB HR.out HT.out hk0 HGO.out HGR.out HB3.out HOU.out hu0
end Go.Proofs.Ytkhkllpdhnmhkaa
