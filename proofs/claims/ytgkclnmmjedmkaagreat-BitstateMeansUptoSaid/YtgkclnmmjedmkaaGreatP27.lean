/- heronref05.count, heronref05.Sound: both cases. -/
import Derived.Test.YtgkclnmmjedmkaaGreatP21
import Derived.Test.YtgkclnmmjedmkaaGreatP26
set_option maxRecDepth 100000
set_option maxHeartbeats 2000000
namespace Go.Proofs.YtgkclnmmjedmkaaGreat
open Go.RowKit Tr
def leftS (t:Tr.Tr) (d left:Int):Int:=if okB t d left=true then left - (size t:Nat) else -1
theorem rcount_any:∀ (t:Ta) (S:Nat→Prop) (w:World) (d left:Int),RT w S t→(∀ b,S b→b < w.heap.size)→0≤left→left≤200000→1≤d→d≤10001 →
  Calls Tryz.prog 41 #[t.val,.int .i64 left,.int .i64 d] w fun e w'=>e=.returned (.int .i64 (leftS t.tr d left))∧Below w.heap.size w w':=by
 intro t
 induction t using Ta.ind with
 | h t ih =>
  intro S w d left h hS h0 h1 hd0 hd1
  cases t with
  | mk k r ra rc ast l sa sc mn mx z ix nm =>
  obtain ⟨⟨hR,hrl,hll,hnm⟩,hN,hL⟩:=h.parts
  have hsc:=hN.1
  have hsc2:=hN.2.1
  have hb0:Below w.heap.size w (w.alloc (.cells #[.int .i64 k,.slice ra r.length rc,.int .i64 ast,.slice sa l.length sc,.int .i64 mn,.int .i64 mx,.bool z,.int .i64 ix,.string nm] 25)):=(zzb _ _).alloc (zzF _) _
  have HBL:=zzA (zyI w 25 [.int .i64 k,.slice ra r.length rc,.int .i64 ast,.slice sa l.length sc,.int .i64 mn,.int .i64 mx,.bool z,.int .i64 ix,.string nm])
  have HPN:=zzA (rnode_any (Ta.mk k r ra rc ast l sa sc mn mx z ix nm) S (w.alloc (.cells #[.int .i64 k,.slice ra r.length rc,.int .i64 ast,.slice sa l.length sc,.int .i64 mn,.int .i64 mx,.bool z,.int .i64 ix,.string nm] 25)) (h.below hS hb0) (fun b hb=>zzQ (hS b hb) hb0.size))
  have hok:=ok_iff (k:=k) (r:=r) (a:=ast) (l:=trs l) (n:=mn) (m:=mx) (z:=z) (i:=ix) (s:=nm) (d:=d) (left:=left)
  have hsz:(size (Ta.mk k r ra rc ast l sa sc mn mx z ix nm).tr:Int)=((sizes (trs l):Nat):Int)+1:=by rw [Ta.tr,size_mk];omega
  obtain ⟨nb,hnb⟩:∃ b,b=nodeB (Ta.mk k r ra rc ast l sa sc mn mx z ix nm).tr:=⟨_,rfl⟩
  rw [←hnb] at HPN
  rw [show (Tr.Tr.mk k r ast (trs l) mn mx z ix nm)=(Ta.mk k r ra rc ast l sa sc mn mx z ix nm).tr from by rw [Ta.tr],←hnb] at hok
  have hbi:=okB_iff (Ta.mk k r ra rc ast l sa sc mn mx z ix nm).tr d left
  have HOK:=zzA hok
  have HSZ:=zzA hsz
  have HB0:=zzA hb0
  have HIH:=zzA ih
  have HN:=zzA hN
  have HL:=zzA hL
  have HSS:=zzA hS
  have HBI:=zzA hbi
  have HDP:=zzA (deep_pos (Ta.mk k r ra rc ast l sa sc mn mx z ix nm).tr)
  clear hok hsz hb0 ih hN hL hS h hR hnb hbi
  generalize (Ta.mk k r ra rc ast l sa sc mn mx z ix nm).tr=T at *
  have no:¬OK T d left→leftS T d left=-1:=fun hn=>by
   unfold leftS
   rw [if_neg fun h=>hn (HBI.out.1 h)]
  have yes:OK T d left→leftS T d left=left - (size T:Nat):=fun hn=>by
   unfold leftS
   rw [if_pos (HBI.out.2 hn)]
  obtain ⟨res,hres⟩:∃ x,x=leftS T d left:=⟨_,rfl⟩
  rw [←hres] at no yes ⊢
  have NO:=zzA no
  have YES:=zzA yes
  clear no yes hres
  simp only [Ta.val,Ta.vals] at HPN ⊢
  by_cases hd:10000 < d
  ·have HNO:=zzA (NO.out fun h=>by have:=h.2.1;have:=HDP.out;omega)
   cases nb
   all_goals
    go_enter Tryz.func41,Tryz.ntmps41
    go_wp2_with (go_at_call 64;refine HPN.out.mono ?_;rintro e w2 ⟨rfl,hb2⟩;have HB2:=zzA (HB0.out.trans (hb2.mono HB0.out.size));clear hb2;simp only [])
    go_ret
    exact ⟨ret_int HNO.out.symm,HB2.out⟩
  ·cases nb with
   | false =>
    have HNO:=zzA (NO.out fun h=>by have:=(HOK.out.1 h).1;cases this)
    go_enter Tryz.func41,Tryz.ntmps41
    go_wp2_with (go_at_call 64;refine HPN.out.mono ?_;rintro e w2 ⟨rfl,hb2⟩;have HB2:=zzA (HB0.out.trans (hb2.mono HB0.out.size));clear hb2;simp only [])
    go_ret
    exact ⟨ret_int HNO.out.symm,HB2.out⟩
   | true =>
    go_enter Tryz.func41,Tryz.ntmps41
    go_wp2_with (go_at_call 64;refine HPN.out.mono ?_;rintro e w2 ⟨rfl,hb2⟩;have HB2:=zzA (HB0.out.trans (hb2.mono HB0.out.size));have HN2:=zzA (HBL.out.below hb2 HBL.out.lt);clear hb2;simp only [])
    go_loopw [1,8] (fun lv iv wr=>∃ (i:Nat) (lf:Int),i≤l.length∧iv=.int .i64 (i:Int)∧lv=.int .i64 lf∧((0≤lf∧OKs ((trs l).take i) d (left - 1)∧lf=left - 1 - (sizes ((trs l).take i):Nat))∨(lf=-1∧¬OK T d left))∧Below w2.heap.size w2 wr) (fun _ iv _=>l.length - (intOf iv).toNat)
    case atStart =>
     refine ⟨0,left - 1,zzZ _,rfl,rfl,?_,zzb _ _⟩
     by_cases hl1:0≤left - 1
     ·exact .inl ⟨hl1,oks_nil (by omega) hl1,by simp [sizes]⟩
     ·exact .inr ⟨by omega,fun h=>by have:=h.2.2;have:=HSZ.out;omega⟩
    case round =>
     obtain ⟨i,lf,hi,rfl,rfl,hor,hb⟩:=hrel
     have HB:=zzA hb
     have r3:wr.cell? ⟨w.heap.size,3,none⟩=some (.slice sa l.length sc):=(HN2.out.below hb HN2.out.lt).cell 3
     have r9:=(HN2.out.below hb HN2.out.lt).lt
     clear hb
     rcases hor with ⟨hl3,hoks,hlf⟩ | ⟨hlf,hno⟩
     ·have hl4:lf≤200000:=by have:=hoks.2.2;omega
      have HOS:=zzA hoks
      have HLF:=zzA hlf
      clear hoks hlf
      by_cases hlt1:i < l.length
      ·have hlt2:(i:Int) < (l.length:Int):=by omega
       obtain ⟨b,off,rfl,hSb,_⟩:=HN.out.2.2.2.2 (by omega)
       obtain ⟨u,hu⟩:∃ u,l[i]?=some u:=⟨_,zzJ hlt1⟩
       have hum:u∈l:=zzL hu
       have hbb:=HSS.out b hSb
       have hBW:=HB2.out.trans (HB.out.mono HB2.out.size)
       have hcell:∀ j,j < 9→wr.cell? ⟨b,off+i*9+j,none⟩=u.vals[j]?:=fun j hj=>by
        rw [zzy]
        rw [←HN.out.node hu hj]
        exact (hBW.cell (p:=⟨b,off+(i*9+j),none⟩) hbb)
       have hRK:=HIH.out u hum S wr (d+1) lf ((HL.out u hum).below HSS.out hBW) (fun b hb=>zzQ (HSS.out b hb) hBW.size) hl3 hl4 (by omega) (by omega)
       have hst:=oks_take (take_map hu) HOS.out
       rw [←HLF.out] at hst
       have hsz:=sizes_take hu
       have hbi:=okB_iff u.tr (d+1) lf
       have hls:leftS u.tr (d+1) lf=if okB u.tr (d+1) lf=true then lf - (size u.tr:Nat) else -1:=rfl
       have htk:(trs l).take i=trs (l.take i)∧(trs l).take (i+1)=trs (l.take (i+1)):=by rw [trs_map,trs_map,trs_map,List.map_take,List.map_take];exact ⟨rfl,rfl⟩
       rw [←htk.1,←htk.2] at hsz
       clear hbb hBW htk
       obtain ⟨du,hdu⟩:∃ q,q=size u.tr:=⟨_,rfl⟩
       obtain ⟨ub,hub⟩:∃ q,q=okB u.tr (d+1) lf:=⟨_,rfl⟩
       obtain ⟨ur,hur⟩:∃ q,q=leftS u.tr (d+1) lf:=⟨_,rfl⟩
       rw [←hdu] at hls hsz
       rw [←hub] at hls hbi
       rw [←hur] at hls hRK
       have HST:=zzA (hst.trans hbi.symm)
       have HZ:=zzA hsz
       have HLS:=zzA hls
       clear hdu hub hst hbi hsz hur hls
       cases u with
       | mk k' r' ra' rc' a' l' sa' sc' n' m' z' i' s' =>
       simp only [Ta.vals] at hcell
       simp only [Ta.val,Ta.vals] at hRK
       have c0:=hcell 0 (by omega)
       have c1:=hcell 1 (by omega)
       have c2:=hcell 2 (by omega)
       have c3:=hcell 3 (by omega)
       have c4:=hcell 4 (by omega)
       have c5:=hcell 5 (by omega)
       have c6:=hcell 6 (by omega)
       have c7:=hcell 7 (by omega)
       have c8:=hcell 8 (by omega)
       simp only [zzR,zzX,Nat.add_zero] at c0 c1 c2 c3 c4 c5 c6 c7 c8
       have HIN:=zzA hRK
       clear hcell hu hum hRK
       go_wp2_with (go_at_call 41;refine HIN.out.mono ?_;rintro e w5 ⟨rfl,hb5⟩;have HB5:=zzA hb5;clear hb5;simp only [])
       go_roundw
       case rel =>
        refine ⟨i+1,ur,by omega,by go_num,rfl,?_,HB.out.trans (HB5.out.mono HB.out.size)⟩
        cases ub with
        | true =>
         have e1:ur=lf - (du:Nat):=HLS.out.trans (if_pos rfl)
         have g:=HST.out.2 rfl
         refine .inl ⟨?_,g,?_⟩
         ·have e2:=g.2.2;have e3:=HLF.out;have e4:=HZ.out;omega
         ·have e3:=HLF.out;have e4:=HZ.out;omega
        | false =>
         have e1:ur=-1:=HLS.out.trans (if_neg (by simp))
         exact .inr ⟨e1,fun h=>by have:=HST.out.1 (oks_of ((HOK.out.1 h).2));cases this⟩
       case measure=>simp [intOf];omega
      ·obtain rfl:i=l.length:=by omega
       have hlt2:¬((l.length:Int) < (l.length:Int)):=by omega
       have htl:(trs l).take l.length=trs l:=by rw [←trs_length l,List.take_length]
       have hyes:OK T d left:=HOK.out.2 ⟨by trivial,htl ▸ HOS.out⟩
       have hlz:res=lf:=by rw [YES.out hyes,HLF.out,HSZ.out,htl];omega
       have HLZ:=zzA hlz
       clear hlz hyes htl
       go_wp2_with fail
       go_ret
       exact ⟨ret_int HLZ.out.symm,HB2.out.trans (HB.out.mono HB2.out.size)⟩
     ·have hng:¬(0≤lf):=by omega
      have HLZ:=zzA ((NO.out hno).trans hlf.symm)
      clear hno hlf
      by_cases hlt1:i < l.length
      ·have hlt2:(i:Int) < (l.length:Int):=by omega
       go_wp2_with fail
       go_ret
       exact ⟨ret_int HLZ.out.symm,HB2.out.trans (HB.out.mono HB2.out.size)⟩
      ·have hlt2:¬((i:Int) < (l.length:Int)):=by omega
       go_wp2_with fail
       go_ret
       exact ⟨ret_int HLZ.out.symm,HB2.out.trans (HB.out.mono HB2.out.size)⟩
theorem rSound_any (t:Ta) (S:Nat→Prop) (w:World) (h:RT w S t) (hS:∀ b,S b→b < w.heap.size) :
  Calls Tryz.prog 14 #[t.val] w fun e w'=>e=.returned (sv t.tr)∧Below w.heap.size w w':=by
 have hb0:Below w.heap.size w (w.alloc (.cells t.vals.toArray 25)):=(zzb _ _).alloc (zzF _) _
 have HC1:=zzA (rcount_any t S w 1 200000 h hS (by omega) (by omega) (by omega) (by omega))
 have HC2:=zzA (rcount_any t S (w.alloc (.cells t.vals.toArray 25)) 1 200000 (h.below hS hb0) (fun b hb=>zzQ (hS b hb) hb0.size) (by omega) (by omega) (by omega) (by omega))
 have hl:(0≤leftS t.tr 1 200000∧leftS t.tr 1 200000≤200000∧soundB t.tr=true)∨(leftS t.tr 1 200000=-1∧soundB t.tr=false):=by
  unfold leftS
  have:=okB_iff t.tr 1 200000
  rw [okB_sound] at this ⊢
  cases hs:soundB t.tr with
  | true=>rw [if_pos rfl];exact .inl ⟨by have:=(this.1 hs).2.2;omega,by omega,rfl⟩
  | false=>exact .inr ⟨if_neg (by simp),rfl⟩
 have hsv:sv t.tr=.int .i64 (if soundB t.tr=true then 0 else 50):=rfl
 rw [hsv]
 have HB0:=zzA hb0
 clear h hS hsv hb0
 obtain ⟨b,hb⟩:∃ b,b=soundB t.tr:=⟨_,rfl⟩
 obtain ⟨lf,hlf⟩:∃ b,b=leftS t.tr 1 200000:=⟨_,rfl⟩
 rw [←hb] at hl ⊢
 rw [←hlf] at hl HC1 HC2
 clear hb hlf
 cases t with
 | mk k r ra rc ast l sa sc mn mx z ix nm =>
 simp only [Ta.val,Ta.vals] at HC1 HC2 HB0 ⊢
 rcases hl with ⟨hl1,hl2,rfl⟩ | ⟨rfl,rfl⟩
 all_goals
  go_enter Tryz.func14,Tryz.ntmps14
  go_wp2_with (go_at_call 41;first | (refine HC2.out.mono ?_;rintro e w5 ⟨rfl,hb5⟩;have HB5:=zzA (HB0.out.trans (hb5.mono HB0.out.size));clear hb5;simp only []) | (refine HC1.out.mono ?_;rintro e w5 ⟨rfl,hb5⟩;have HB5:=zzA hb5;clear hb5;simp only []))
  go_ret
  exact ⟨rfl,HB5.out⟩
end Go.Proofs.YtgkclnmmjedmkaaGreat
