/- printer.sound, printer.Sound: both cases. -/
import Derived.Test.YtgkclnmmjedmkaaGreatP20
set_option maxRecDepth 100000
set_option maxHeartbeats 2000000
namespace Go.Proofs.YtgkclnmmjedmkaaGreat
open Go.RowKit Tr
def OK (t:Tr.Tr) (d left:Int):Prop:=allB t=true∧d+(deep t:Nat)≤10001∧((size t:Nat):Int)≤left
def okB (t:Tr.Tr) (d left:Int):Bool:=allB t && (decide (d+(deep t:Nat)≤10001) && decide (((size t:Nat):Int)≤left))
theorem okB_iff (t:Tr.Tr) (d left:Int):okB t d left=true ↔ OK t d left:=by
 unfold okB OK;rw [zzc,zzc,zzg,zzg]
def OKs (l:List Tr.Tr) (d left:Int):Prop:=(∀ t∈l,allB t=true)∧d+(deeps l:Nat)≤10000∧((sizes l:Nat):Int)≤left
theorem sizes_app (a b:List Tr.Tr):sizes (a++b)=sizes a+sizes b:=by
 induction a with
 | nil=>simp [sizes]
 | cons x a ih=>rw [zzi,sizes,sizes,ih];omega
theorem deeps_app (a b:List Tr.Tr):deeps (a++b)=max (deeps a) (deeps b):=by
 induction a with
 | nil=>simp [deeps]
 | cons x a ih=>rw [zzi,deeps,deeps,ih];omega
theorem size_mk (k:Int) (r:List (Int × Int)) (a:Int) (l:List Tr.Tr) (n m:Int) (z:Bool) (i:Int) (s:ByteArray):size (.mk k r a l n m z i s)=sizes l+1:=by rw [size]
theorem deep_mk (k:Int) (r:List (Int × Int)) (a:Int) (l:List Tr.Tr) (n m:Int) (z:Bool) (i:Int) (s:ByteArray):deep (.mk k r a l n m z i s)=deeps l+1:=by rw [deep]
theorem ok_iff {k:Int} {r:List (Int × Int)} {a:Int} {l:List Tr.Tr} {n m:Int} {z:Bool} {i:Int} {s:ByteArray} {d left:Int} :
  OK (.mk k r a l n m z i s) d left ↔ nodeB (.mk k r a l n m z i s)=true∧OKs l d (left - 1):=by
 unfold OK OKs
 rw [allB_iff,size_mk,deep_mk]
 constructor
 ·rintro ⟨⟨h1,h2⟩,h3,h4⟩
  exact ⟨h1,h2,by omega,by omega⟩
 ·rintro ⟨h1,h2,h3,h4⟩
  exact ⟨⟨h1,h2⟩,by omega,by omega⟩
theorem oks_take {l:List Tr.Tr} {i:Nat} {u:Tr.Tr} (hu:l[i]?=some u) {d left:Int} (h:OKs (l.take i) d left):OKs (l.take (i+1)) d left ↔ OK u (d+1) (left - (sizes (l.take i):Nat)):=by
 have hd:=deep_pos u
 unfold OK OKs at *
 obtain ⟨h1,h2,h3⟩:=h
 rw [zyD,hu,sizes_app,deeps_app]
 have e1:sizes (some u).toList=size u:=by simp [sizes]
 have e2:deeps (some u).toList=deep u:=by simp [deeps]
 rw [e1,e2]
 constructor
 ·rintro ⟨g1,g2,g3⟩
  exact ⟨g1 u (by simp),by omega,by omega⟩
 ·rintro ⟨g1,g2,g3⟩
  refine ⟨fun t ht=>?_,by omega,by omega⟩
  rcases zzM.1 ht with q | q
  ·exact h1 t q
  ·simp at q;subst q;exact g1
theorem oks_of {l:List Tr.Tr} {i:Nat} {d left:Int} (h:OKs l d left):OKs (l.take i) d left:=by
 obtain ⟨h1,h2,h3⟩:=h
 have e1:=sizes_app (l.take i) (l.drop i)
 have e2:=deeps_app (l.take i) (l.drop i)
 rw [List.take_append_drop] at e1 e2
 exact ⟨fun t ht=>h1 t (List.mem_of_mem_take ht),by omega,by omega⟩
theorem oks_nil {d left:Int} (hd:d≤10000) (hl:0≤left):OKs [] d left:=⟨by simp,by simp [deeps];exact hd,by simp [sizes];exact hl⟩
theorem take_map {l:List Ta} {i:Nat} {u:Ta} (hu:l[i]?=some u):(trs l)[i]?=some u.tr:=by rw [trs_map,zza,hu];rfl
structure SS (w:World) (cs:List Value) (lb:Nat) (left:Int) (wr:World):Prop where
 kept:Kept w wr [lb]
 node:Blk wr w.heap.size 25 cs
 num:Blk wr lb 3 [.int .i64 left]
 lt:lb < w.heap.size
theorem SS.bel {w:World} {cs:List Value} {lb:Nat} {left:Int} {wr wq:World} (h:SS w cs lb left wr) (hb:Below wr.heap.size wr wq):SS w cs lb left wq :=
 ⟨(h.kept.trans (Kept.of_below (L:=[]) hb)).more (by intro k hk;simp at hk;exact .inl (by simp [hk])),h.node.below hb h.node.lt,h.num.below hb h.num.lt,h.lt⟩
theorem SS.put {w:World} {cs:List Value} {lb:Nat} {left left':Int} {wr wq:World} (h:SS w cs lb left wr) (hb:Kept wr wq [lb]) (hn:Blk wq lb 3 [.int .i64 left']):SS w cs lb left' wq :=
 ⟨(h.kept.trans hb).more (by intro k hk;simp at hk;exact .inl (by simp [hk])),h.node.kept hb (by have:=h.lt;simp;omega),hn,h.lt⟩
theorem SS.rt {w:World} {cs:List Value} {lb:Nat} {left:Int} {wr:World} (h:SS w cs lb left wr) {S:Nat→Prop} (hS:∀ b,S b→b < w.heap.size∧b≠lb) {t:Ta} (ht:RT w S t):RT wr S t :=
 ht.go fun b hb=>h.kept.block b (hS b hb).1 (by simpa using (hS b hb).2)
theorem SS.lts {w:World} {cs:List Value} {lb:Nat} {left:Int} {wr:World} (h:SS w cs lb left wr) {S:Nat→Prop} (hS:∀ b,S b→b < w.heap.size∧b≠lb):∀ b,S b→b < wr.heap.size∧b≠lb:=fun b hb=>⟨zzQ (hS b hb).1 h.kept.size,(hS b hb).2⟩
def SoundOK (t:Ta):Prop:=∀ (S:Nat→Prop) (w:World) (lb:Nat) (d left:Int),RT w S t→(∀ b,S b→b < w.heap.size∧b≠lb)→Blk w lb 3 [.int .i64 left]→0≤left→left≤200000→1≤d→d≤10001 →
  Calls Tryz.prog 46 #[t.val,.int .i64 d,.pointer (some ⟨lb,0,none⟩)] w fun e w'=>e=.returned (.bool (okB t.tr d left))∧Kept w w' [lb]∧(okB t.tr d left=true→Blk w' lb 3 [.int .i64 (left - (size t.tr:Nat))])
theorem psound_any:∀ t:Ta,SoundOK t:=by
 intro t
 induction t using Ta.ind with
 | h t ih =>
  intro S w lb d left h hS hlb h0 h1 hd0 hd1
  cases t with
  | mk k r ra rc ast l sa sc mn mx z ix nm =>
  obtain ⟨⟨hR,hrl,hll,hnm⟩,hN,hL⟩:=h.parts
  have hsc:=hN.1
  have hsc2:=hN.2.1
  have hlt:=hlb.lt
  have hc0:w.cell? ⟨lb,0,none⟩=some (.int .i64 left):=hlb.cell 0
  have hf0:=hlb.frozen 0
  have hset:SS w [.int .i64 k,.slice ra r.length rc,.int .i64 ast,.slice sa l.length sc,.int .i64 mn,.int .i64 mx,.bool z,.int .i64 ix,.string nm] lb (left - 1) ((w.setCell ⟨lb,0,none⟩ (.int .i64 (left - 1))).alloc (.cells #[.int .i64 k,.slice ra r.length rc,.int .i64 ast,.slice sa l.length sc,.int .i64 mn,.int .i64 mx,.bool z,.int .i64 ix,.string nm] 25)):=by
   have hb:=zyI (w.setCell ⟨lb,0,none⟩ (.int .i64 (left - 1))) 25 [.int .i64 k,.slice ra r.length rc,.int .i64 ast,.slice sa l.length sc,.int .i64 mn,.int .i64 mx,.bool z,.int .i64 ix,.string nm]
   have hs:(w.setCell ⟨lb,0,none⟩ (.int .i64 (left - 1))).heap.size=w.heap.size:=by simp
   rw [hs] at hb
   exact ⟨((zyG ⟨lb,0,none⟩ (.int .i64 (left - 1))).trans (Kept.alloc (L:=[]) _)).more (by intro k hk;simp at hk;exact .inl (by simp [hk])),hb,(hlb.set_ 0 _).alloc _,hlt⟩
  have hc1:((w.setCell ⟨lb,0,none⟩ (.int .i64 (left - 1))).alloc (.cells #[.int .i64 k,.slice ra r.length rc,.int .i64 ast,.slice sa l.length sc,.int .i64 mn,.int .i64 mx,.bool z,.int .i64 ix,.string nm] 25)).cell? ⟨lb,0,none⟩=some (.int .i64 (left - 1)):=hset.num.cell 0
  have hnode:nodeB (Ta.mk k r ra rc ast l sa sc mn mx z ix nm).tr=nodeB (Ta.mk k r ra rc ast l sa sc mn mx z ix nm).tr:=rfl
  have HPN:=zzA (pnode_any (Ta.mk k r ra rc ast l sa sc mn mx z ix nm) S ((w.setCell ⟨lb,0,none⟩ (.int .i64 (left - 1))).alloc (.cells #[.int .i64 k,.slice ra r.length rc,.int .i64 ast,.slice sa l.length sc,.int .i64 mn,.int .i64 mx,.bool z,.int .i64 ix,.string nm] 25)) (hset.rt hS h) (fun b hb=>(hset.lts hS b hb).1))
  have hok:=ok_iff (k:=k) (r:=r) (a:=ast) (l:=trs l) (n:=mn) (m:=mx) (z:=z) (i:=ix) (s:=nm) (d:=d) (left:=left)
  have hsz:(size (Ta.mk k r ra rc ast l sa sc mn mx z ix nm).tr:Int)=((sizes (trs l):Nat):Int)+1:=by rw [Ta.tr,size_mk];omega
  obtain ⟨nb,hnb⟩:∃ b,b=nodeB (Ta.mk k r ra rc ast l sa sc mn mx z ix nm).tr:=⟨_,rfl⟩
  rw [←hnb] at HPN
  rw [show (Tr.Tr.mk k r ast (trs l) mn mx z ix nm)=(Ta.mk k r ra rc ast l sa sc mn mx z ix nm).tr from by rw [Ta.tr],←hnb] at hok
  have HOK:=zzA hok
  have HSZ:=zzA hsz
  have HSET:=zzA hset
  have HIH:=zzA ih
  have HN:=zzA hN
  have HL:=zzA hL
  have HSS:=zzA hS
  clear hok hsz hset ih hN hL hS h hR hlb hnb hnode
  have HDP:=zzA (deep_pos (Ta.mk k r ra rc ast l sa sc mn mx z ix nm).tr)
  generalize (Ta.mk k r ra rc ast l sa sc mn mx z ix nm).tr=T at *
  simp only [Ta.val,Ta.vals] at HPN ⊢
  have hbi:=okB_iff T d left
  obtain ⟨res,hres⟩:∃ b,b=okB T d left:=⟨_,rfl⟩
  rw [←hres] at hbi ⊢
  have HBI:=zzA hbi
  clear hbi hres
  have no:∀ w':World,Kept w w' [lb]→¬OK T d left→Ending.returned (.bool false)=.returned (.bool res)∧Kept w w' [lb]∧(res=true→Blk w' lb 3 [.int .i64 (left - (size T:Nat))]):=fun w' hk hn=>by
   cases res with
   | false=>exact ⟨rfl,hk,fun h=>by cases h⟩
   | true=>exact absurd (HBI.out.1 rfl) hn
  have NO:=zzA no
  clear no
  by_cases hl1:left - 1 < 0
  ·have hno:¬OK T d left:=fun h=>by have:=h.2.2;have:=HSZ.out;omega
   have HNO:=zzA hno
   clear hno
   go_enter Tryz.func46,Tryz.ntmps46
   go_wp2_with fail
   go_ret
   exact NO.out _ HSET.out.kept HNO.out
  ·by_cases hd:10000 < d
   ·have hno:¬OK T d left:=fun h=>by have:=h.2.1;have:=HDP.out;omega
    have HNO:=zzA hno
    clear hno
    go_enter Tryz.func46,Tryz.ntmps46
    go_wp2_with fail
    go_ret
    exact NO.out _ HSET.out.kept HNO.out
   ·cases nb with
    | false =>
     have HNO:=zzA (show ¬OK T d left from fun h=>by have:=(HOK.out.1 h).1;cases this)
     go_enter Tryz.func46,Tryz.ntmps46
     go_wp2_with (go_at_call 83;refine HPN.out.mono ?_;rintro e w2 ⟨rfl,hb2⟩;have HS2:=zzA (HSET.out.bel hb2);clear hb2;simp only [])
     go_ret
     exact NO.out _ HS2.out.kept HNO.out
    | true =>
     go_enter Tryz.func46,Tryz.ntmps46
     go_wp2_with (go_at_call 83;refine HPN.out.mono ?_;rintro e w2 ⟨rfl,hb2⟩;have HS2:=zzA (HSET.out.bel hb2);have t3:w2.cell? ⟨w.heap.size,3,none⟩=some (.slice sa l.length sc):=HS2.out.node.cell 3;clear hb2;simp only [])
     go_loopw [30] (fun iv wr=>∃ (i:Nat),i≤l.length∧iv=.int .i64 (i:Int)∧OKs ((trs l).take i) d (left - 1)∧SS w [.int .i64 k,.slice ra r.length rc,.int .i64 ast,.slice sa l.length sc,.int .i64 mn,.int .i64 mx,.bool z,.int .i64 ix,.string nm] lb (left - 1 - (sizes ((trs l).take i):Nat)) wr) (fun iv _=>l.length - (intOf iv).toNat)
     case atStart=>exact ⟨0,zzZ _,rfl,oks_nil (by omega) (by omega),by simpa [sizes] using HS2.out⟩
     case round =>
      obtain ⟨i,hi,rfl,hoks,hr⟩:=hrel
      have HR:=zzA hr
      have HOS:=zzA hoks
      have hl3:0≤left - 1 - (sizes ((trs l).take i):Nat)∧left - 1 - (sizes ((trs l).take i):Nat)≤200000:=by have:=hoks.2.2;omega
      clear hr hoks
      obtain ⟨lf,hlf⟩:∃ q,q=left - 1 - (sizes ((trs l).take i):Nat):=⟨_,rfl⟩
      have HLF:=zzA hlf
      rw [←hlf] at hl3 HR
      clear hlf
      obtain ⟨hl3,hl4⟩:=hl3
      by_cases hlt1:i < l.length
      ·have hlt2:(i:Int) < (l.length:Int):=by omega
       obtain ⟨b,off,rfl,hSb,_⟩:=HN.out.2.2.2.2 (by omega)
       obtain ⟨u,hu⟩:∃ u,l[i]?=some u:=⟨_,zzJ hlt1⟩
       have hum:u∈l:=zzL hu
       have hbb:=HSS.out b hSb
       have hcell:∀ j,j < 9→wr.cell? ⟨b,off+i*9+j,none⟩=u.vals[j]?:=fun j hj=>by
        rw [zzy]
        rw [←HN.out.node hu hj]
        exact (HR.out.kept.cell (p:=⟨b,off+(i*9+j),none⟩) hbb.1 (by simpa using hbb.2))
       have hba:Below wr.heap.size wr (wr.alloc (.cells u.vals.toArray 25)):=(zzb _ _).alloc (zzF _) _
       have HR1:=zzA (HR.out.bel hba)
       have hRK:=HIH.out u hum S (wr.alloc (.cells u.vals.toArray 25)) lb (d+1) lf (HR1.out.rt HSS.out (HL.out u hum)) (HR1.out.lts HSS.out) HR1.out.num hl3 hl4 (by omega) (by omega)
       have hst:=oks_take (take_map hu) HOS.out
       rw [←HLF.out] at hst
       have hsz:=sizes_take hu
       have hbi:=okB_iff u.tr (d+1) lf
       have htk:(trs l).take i=trs (l.take i)∧(trs l).take (i+1)=trs (l.take (i+1)):=by rw [trs_map,trs_map,trs_map,List.map_take,List.map_take];exact ⟨rfl,rfl⟩
       rw [←htk.1,←htk.2] at hsz
       clear hba hbb htk
       obtain ⟨du,hdu⟩:∃ q,q=size u.tr:=⟨_,rfl⟩
       obtain ⟨ub,hub⟩:∃ q,q=okB u.tr (d+1) lf:=⟨_,rfl⟩
       rw [←hdu] at hRK hsz
       rw [←hub] at hRK hbi
       have HST:=zzA (hst.trans hbi.symm)
       have HZ:=zzA hsz
       clear hdu hub hst hbi hsz
       cases u with
       | mk k' r' ra' rc' a' l' sa' sc' n' m' z' i' s' =>
       simp only [Ta.vals] at hcell HR1
       simp only [Ta.val,Ta.vals] at hRK
       have c0:=hcell 0 (by omega)
       have c1:=hcell 1 (by omega)
       have c2:=hcell 2 (by omega)
       have c3:=hcell 3 (by omega)
       have c4:=hcell 4 (by omega)
       have c5:=hcell 5 (by omega)
       have c6:=hcell 6 (by omega)
       have c7:=hcell 7 (by omega)
       have c8:=hcell 8 (by omega)
       simp only [zzR,zzX,Nat.add_zero] at c0 c1 c2 c3 c4 c5 c6 c7 c8
       have HIN:=zzA hRK
       clear hcell hu hum hRK
       cases ub with
       | false =>
        go_wp2_with (go_at_call 46;refine HIN.out.mono ?_;rintro e w5 ⟨rfl,hk5,-⟩;have HK5:=zzA ((HR1.out.kept.trans hk5).more (M:=[lb]) (by intro k hk;simp at hk;exact .inl (by simp [hk])));clear hk5;simp only [])
        go_ret
        exact NO.out _ HK5.out fun h=>by have:=HST.out.1 (oks_of ((HOK.out.1 h).2));cases this
       | true =>
        go_wp2_with (go_at_call 46;refine HIN.out.mono ?_;rintro e w5 ⟨rfl,hk5,hn5⟩;have HR5:=zzA (HR1.out.put hk5 (hn5 rfl));clear hk5 hn5;simp only [])
        go_roundw
        case rel=>exact ⟨i+1,by omega,by go_num,HST.out.2 rfl,by (have e1:left - 1 - ((sizes ((trs l).take (i+1)):Nat):Int)=lf - (du:Nat):=by (rw [HLF.out,HZ.out];omega));rw [e1];exact HR5.out⟩
        case measure=>simp [intOf];omega
      ·obtain rfl:i=l.length:=by omega
       have hlt2:¬((l.length:Int) < (l.length:Int)):=by omega
       have htl:(trs l).take l.length=trs l:=by rw [←trs_length l,List.take_length]
       have hyes:OK T d left:=HOK.out.2 ⟨by trivial,htl ▸ HOS.out⟩
       have hlz:lf=left - (size T:Nat):=by rw [HLF.out,HSZ.out,htl];omega
       obtain rfl:res=true:=HBI.out.2 hyes
       have HLZ:=zzA hlz
       clear hlz hyes htl
       go_wp2_with fail
       go_ret
       exact ⟨rfl,HR.out.kept,HLZ.out ▸ HR.out.num⟩
theorem okB_sound (t:Tr.Tr):okB t 1 200000=soundB t:=by
 unfold okB soundB
 rw [Bool.and_assoc]
 congr 2
 ·rw [decide_eq_decide];omega
 ·rw [decide_eq_decide];omega
def sv (t:Tr.Tr):Value:=.int .i64 (if soundB t=true then 0 else 50)
theorem pSound_any (t:Ta) (S:Nat→Prop) (w:World) (h:RT w S t) (hS:∀ b,S b→b < w.heap.size) :
  Calls Tryz.prog 24 #[t.val] w fun e w'=>e=.returned (sv t.tr)∧Below w.heap.size w w':=by
 have hb1:Below w.heap.size w ((w.alloc (.cells t.vals.toArray 25)).alloc (.cells #[.int .i64 200000] 3)):=two_below w _ _
 have hc:=psound_any t S ((w.alloc (.cells t.vals.toArray 25)).alloc (.cells #[.int .i64 200000] 3)) (w.heap.size+1) 1 200000 (h.below hS hb1) (fun b hb=>⟨zzQ (hS b hb) hb1.size,by have:=hS b hb;omega⟩) (two_blk w _ 3 [.int .i64 200000]) (by omega) (by omega) (by omega) (by omega)
 rw [okB_sound] at hc
 have HC:=zzA hc
 have HB1:=zzA hb1
 have hsv:sv t.tr=.int .i64 (if soundB t.tr=true then 0 else 50):=rfl
 rw [hsv]
 clear hc hb1 h hS hsv
 obtain ⟨b,hb⟩:∃ b,b=soundB t.tr:=⟨_,rfl⟩
 rw [←hb] at HC ⊢
 clear hb
 cases t with
 | mk k r ra rc ast l sa sc mn mx z ix nm =>
 simp only [Ta.val,Ta.vals] at HC HB1 ⊢
 cases b with
 | true =>
  go_enter Tryz.func24,Tryz.ntmps24
  go_wp2_with fail
  refine HC.out.mono ?_
  rintro e w5 ⟨rfl,hk5,-⟩
  have HK5:=zzA hk5
  clear hk5
  simp only []
  go_wp2_with fail
  go_ret
  exact ⟨rfl,zyH HB1.out HK5.out (by intro k hk;simp at hk;omega) HB1.out.size⟩
 | false =>
  go_enter Tryz.func24,Tryz.ntmps24
  go_wp2_with fail
  refine HC.out.mono ?_
  rintro e w5 ⟨rfl,hk5,-⟩
  have HK5:=zzA hk5
  clear hk5
  simp only []
  go_wp2_with fail
  go_ret
  exact ⟨rfl,zyH HB1.out HK5.out (by intro k hk;simp at hk;omega) HB1.out.size⟩
end Go.Proofs.YtgkclnmmjedmkaaGreat
