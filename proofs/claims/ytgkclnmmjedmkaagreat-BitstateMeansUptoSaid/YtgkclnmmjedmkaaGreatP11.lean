/- heronlaw05.great, Deep: how great a tree is. -/
import Derived.Handy
import Derived.BigQuiet
import Derived.Deep.QuietTactic
import Derived.Test.YtgkclnmmjedmkaaGreatP07
import Derived.Test.YtgkclnmmjedmkaaGreatP09
set_option maxRecDepth 100000
set_option maxHeartbeats 2000000
namespace Go.Proofs.YtgkclnmmjedmkaaGreat
open Go.RowKit Tr
theorem sizes_take {l:List Ta} {i:Nat} {t:Ta} (h:l[i]?=some t):sizes (trs (l.take (i+1)))=sizes (trs (l.take i))+size t.tr:=by
 rw [zyD,h,trs_map,trs_map,zzT]
 have:∀ a b:List Tr,sizes (a++b)=sizes a+sizes b:=by
  intro a b
  induction a with
  | nil=>simp [sizes]
  | cons x a ih=>rw [zzi,sizes,sizes,ih];omega
 rw [this];simp [sizes]
theorem sizes_take_le (l:List Ta) (i:Nat):sizes (trs (l.take i))≤sizes (trs l):=by
 have:∀ a b:List Tr,sizes (a++b)=sizes a+sizes b:=by
  intro a b
  induction a with
  | nil=>simp [sizes]
  | cons x a ih=>rw [zzi,sizes,sizes,ih];omega
 have e:sizes (trs l)=sizes (trs (l.take i))+sizes (trs (l.drop i)):=by
  rw [trs_map,trs_map,trs_map,←this,←zzT,List.take_append_drop]
 omega
theorem Ta.tr_size (k:Int) (r:List (Int × Int)) (ra:Option Addr) (rc:Nat) (a:Int) (l:List Ta) (sa:Option Addr) (sc:Nat) (mn mx:Int) (z:Bool) (i:Int) (s:ByteArray):size (Ta.mk k r ra rc a l sa sc mn mx z i s).tr=sizes (trs l)+1:=by
 rw [Ta.tr,size]
theorem RdA.node {w:World} {S:Nat→Prop} {b off c:Nat} {l:List Ta} {j:Nat} {t:Ta} (h:RdA w S 9 (some ⟨b,off,none⟩) l.length c (rowT l)) (ht:l[j]?=some t) {q:Nat} (hq:q < 9):w.cell? ⟨b,off+(j*9+q),none⟩=t.vals[q]?:=by
 have hl:j < l.length:=(zzK.1 ht).1
 obtain ⟨b',off',e,_,hc⟩:=h.2.2.2.2 (by omega)
 simp only [zzd,Addr.mk.injEq,and_true] at e
 obtain ⟨rfl,rfl⟩:=e
 have hg:=rowT_get l j q t ht hq
 have hv:q < t.vals.length:=by rw [Ta.vals_length];exact hq
 rw [zzJ hv] at hg ⊢
 exact hc _ _ hg
theorem ar_end {q left:Int} {s0 n sz:Nat} (hq:q=max (left - 1 - (s0:Int)) (-1)) (hsz:sz=n+1) (hle:s0≤n) (h:q < 0∨s0=n):q=max (left - (sz:Int)) (-1):=by omega
theorem ar_great {q left:Int} {s1 s0 d:Nat} (hq:q=max (left - 1 - (s0:Int)) (-1)) (hs:s1=s0+d) (h0:0≤q):max (q - (d:Int)) (-1)=max (left - 1 - (s1:Int)) (-1):=by omega
theorem great_any:∀ (t:Ta) (S:Nat→Prop) (w:World) (left:Int),RT w S t→(∀ b,S b→b < w.heap.size)→0≤left→left≤4194304 →
  Calls Tryz.prog 12 #[t.val,.int .i64 left] w fun e w'=>e=.returned (.int .i64 (max (left - size t.tr) (-1)))∧Below w.heap.size w w':=by
 intro t
 induction t using Ta.ind with
 | h t ih =>
  intro S w left h hS h0 h1
  cases t with
  | mk k r ra rc ast l sa sc mn mx z ix nm =>
   obtain ⟨_,hN,hL⟩:=h.parts
   have hsz:=Ta.tr_size k r ra rc ast l sa sc mn mx z ix nm
   have IH:=zzA ih
   have HN:=zzA hN
   have HL:=zzA hL
   have HS:=zzA hS
   have HSZ:=zzA hsz
   clear ih hL hS hsz h
   simp only [Ta.val,Ta.vals]
   have hb0:Below w.heap.size w (w.alloc (.cells #[.int .i64 k,.slice ra r.length rc,.int .i64 ast,.slice sa l.length sc,.int .i64 mn,.int .i64 mx,.bool z,.int .i64 ix,.string nm] 25)):=(zzb _ _).alloc (zzF _) _
   have hbl:=zyI w 25 [.int .i64 k,.slice ra r.length rc,.int .i64 ast,.slice sa l.length sc,.int .i64 mn,.int .i64 mx,.bool z,.int .i64 ix,.string nm]
   have hsc:=hN.1
   have hsc2:=hN.2.1
   have HB0:=zzA hb0
   have HBL:=zzA hbl
   clear hb0 hbl hN
   go_enter Tryz.func12,Tryz.ntmps12
   go_wp2_with fail
   generalize w.alloc (.cells #[.int .i64 k,.slice ra r.length rc,.int .i64 ast,.slice sa l.length sc,.int .i64 mn,.int .i64 mx,.bool z,.int .i64 ix,.string nm] 25)=w1 at *
   go_loopw [1,5] (fun lv iv wr=>∃ (i:Nat) (q:Int),i≤l.length∧iv=.int .i64 (i:Int)∧lv=.int .i64 q∧q=max (left - 1 - sizes (trs (l.take i))) (-1)∧Below w1.heap.size w1 wr) (fun _ iv _=>l.length - (intOf iv).toNat)
   case atStart=>exact ⟨0,left - 1,zzZ _,rfl,rfl,by simp [trs,sizes];omega,zzb _ _⟩
   case round =>
    obtain ⟨i,q,hi,rfl,rfl,hq,hb⟩:=hrel
    have HB:=zzA hb
    have HQ:=zzA hq
    have r3:wr.cell? ⟨w.heap.size,3,none⟩=some (.slice sa l.length sc):=(HBL.out.below hb HBL.out.lt).cell 3
    have r9:=(HBL.out.below hb HBL.out.lt).lt
    have hle:=sizes_take_le l i
    have HLE:=zzA hle
    clear hb
    by_cases hlt:i < l.length
    ·have hlt2:(i:Int) < (l.length:Int):=by omega
     by_cases hq0:0≤q
     ·have hqb:q≤4194304:=by omega
      clear hq hle
      obtain ⟨b,off,rfl,hSb,_⟩:=HN.out.2.2.2.2 (by omega)
      obtain ⟨u,hu⟩:∃ u,l[i]?=some u:=⟨_,zzJ hlt⟩
      have hum:u∈l:=zzL hu
      have hbb:=HS.out b hSb
      have hcell:∀ j,j < 9→wr.cell? ⟨b,off+i*9+j,none⟩=u.vals[j]?:=fun j hj=>by
       rw [zzy]
       rw [←HN.out.node hu hj]
       exact ((HB0.out.trans (HB.out.mono HB0.out.size)).cell (p:=⟨b,off+(i*9+j),none⟩) hbb)
      have hin:=(IH.out u hum S wr q ((HL.out u hum).below HS.out (HB0.out.trans (HB.out.mono HB0.out.size))) (fun b hb=>zzQ (HS.out b hb) (zzU HB0.out.size HB.out.size)) hq0 hqb)
      have hst:=sizes_take hu
      cases u with
      | mk k' r' ra' rc' a' l' sa' sc' n' m' z' i' s' =>
      simp only [Ta.vals] at hcell
      simp only [Ta.val,Ta.vals] at hin
      have c0:=hcell 0 (by omega)
      have c1:=hcell 1 (by omega)
      have c2:=hcell 2 (by omega)
      have c3:=hcell 3 (by omega)
      have c4:=hcell 4 (by omega)
      have c5:=hcell 5 (by omega)
      have c6:=hcell 6 (by omega)
      have c7:=hcell 7 (by omega)
      have c8:=hcell 8 (by omega)
      simp only [zzR,zzX,Nat.add_zero] at c0 c1 c2 c3 c4 c5 c6 c7 c8
      have HIN:=zzA hin
      have HST:=zzA hst
      clear hin hst hcell hu
      go_wp2_with (go_at_call 12;refine HIN.out.mono ?_;rintro e w2 ⟨rfl,hb2⟩;have HB2:=zzA hb2;clear hb2;simp only [])
      go_roundw
      case rel =>
       refine ⟨i+1,_,by omega,by go_num,rfl,?_,HB.out.trans (HB2.out.mono HB.out.size)⟩
       exact ar_great HQ.out HST.out hq0
      case measure=>simp [intOf];omega
     ·have hq1:¬(0≤q):=hq0
      clear hq
      go_wp2_with fail
      go_ret
      exact ⟨congrArg (fun z=>Ending.returned (Value.int .i64 z)) (ar_end HQ.out HSZ.out HLE.out (.inl (by omega))),HB0.out.trans (HB.out.mono HB0.out.size)⟩
    ·obtain rfl:i=l.length:=by omega
     have hlt2:¬((l.length:Int) < (l.length:Int)):=by omega
     clear hq
     go_wp2_with fail
     go_ret
     exact ⟨congrArg (fun z=>Ending.returned (Value.int .i64 z)) (ar_end HQ.out HSZ.out HLE.out (.inr (by rw [List.take_length]))),HB0.out.trans (HB.out.mono HB0.out.size)⟩
theorem deep_any (t:Ta) (S:Nat→Prop) (w:World) (h:RT w S t) (hS:∀ b,S b→b < w.heap.size) :
  Calls Tryz.prog 4 #[t.val] w fun e w'=>e=.returned (.bool (decide (4194304 < size t.tr)))∧Below w.heap.size w w':=by
 have hb0:Below w.heap.size w (w.alloc (.cells t.vals.toArray 25)):=(zzb _ _).alloc (zzF _) _
 have HB0:=zzA hb0
 have HG:=zzA (great_any t S (w.alloc (.cells t.vals.toArray 25)) 4194304 (h.below hS hb0) (fun b hb=>zzQ (hS b hb) hb0.size) (by decide) (by decide))
 have hd:decide (max (4194304 - (size t.tr:Int)) (-1) < 0)=decide (4194304 < size t.tr):=by rw [decide_eq_decide];omega
 have HD:=zzA hd
 clear h hS hd hb0
 cases t with
 | mk k r ra rc ast l sa sc mn mx z ix nm =>
 generalize size (Ta.mk k r ra rc ast l sa sc mn mx z ix nm).tr=q at *
 simp only [Ta.val,Ta.vals] at HG HB0 ⊢
 go_enter Tryz.func4,Tryz.ntmps4
 go_wp2_with (go_at_call 12;refine HG.out.mono ?_;rintro e w2 ⟨rfl,hb2⟩;have HB2:=zzA hb2;clear hb2;simp only [])
 go_ret
 exact ⟨ret_bool (by first | exact HD.out | simpa using HD.out),HB0.out.trans (HB2.out.mono HB0.out.size)⟩
mutual
def uz:Tr.Tr→Nat
 | .mk k _ _ l n m _ _ _=>if k≠6 then uzs l+1 else if m=-1 then max n.toNat 1*uzs l+1 else max 1 (n.toNat*uzs l+(m - n).toNat*(1+uzs l))
def uzs:List Tr.Tr→Nat
 | []=>0
 | t :: l=>uz t+uzs l
end
theorem uzs_append:∀ a b:List Tr.Tr,uzs (a++b)=uzs a+uzs b
 | [],b=>by simp [uzs]
 | t :: a,b=>by rw [zzi,uzs,uzs,uzs_append a b];omega
theorem uzs_snoc {l:List Ta} {i:Nat} {u:Ta} (hu:l[i]?=some u):uzs (trs (l.take (i+1)))=uzs (trs (l.take i))+uz u.tr:=by
 rw [zyD,hu,trs_map,trs_map,zzT,uzs_append]
 simp [uzs]
theorem szUs_append:∀ a b:List Us,szUs (a++b)=szUs a+szUs b
 | [],b=>by simp [szUs]
 | t :: a,b=>by rw [zzi,szUs,szUs,szUs_append a b];omega
theorem szUs_rep (x:Us):∀ n:Nat,szUs (List.replicate n x)=n*szU x
 | 0=>by simp [szUs]
 | n+1=>by rw [List.replicate_succ,szUs,szUs_rep x n,Nat.succ_mul];omega
theorem szU_opt (z:Bool) (x:Us):∀ n:Nat,szU (optU z x n)=(n+1)*szU x+2*n+1
 | 0=>by simp [optU,loopU,szU,szUs]
 | n+1=>by
  rw [optU,loopU,szU,szUs,szUs,catU,szU,szUs,szUs,szUs,szU_opt z x n,Nat.succ_mul (n+1)]
  omega
theorem szU_rep {x:Us} {n m:Int} {z:Bool} {X N D:Nat} (hX:szU x=X) (hle:X≤2*D*N) (hN:1≤N) (hn:0≤n) (hm:m=-1∨n≤m) :
  szU (repU x n m z)≤2*(D+1)*(if m=-1 then max n.toNat 1*N+1 else max 1 (n.toNat*N+(m - n).toNat*(1+N))):=by
 obtain ⟨a,rfl⟩:∃ a:Nat,n=(a:Int):=⟨n.toNat,by omega⟩
 unfold repU
 rw [zyB]
 have e1:2*(D+1)=2*D+2:=by omega
 split
 ·split
  ·rename_i h0
   obtain rfl:a=0:=by omega
   rw [loopU,szU,szUs,szUs,hX,show max 0 1*N+1=N+1 from by simp,e1,Nat.add_mul,Nat.mul_add]
   omega
  ·rename_i h0
   have h1:1≤a:=by omega
   rw [catU,szU,szUs_append,szUs_rep,szUs,szUs,loopU,szU,szUs,szUs,hX,show ((a:Int) - 1).toNat=a - 1 from by omega,show max a 1=a from by omega,e1]
   have h2:(a - 1)*X+X=a*X:=by rw [←Nat.succ_mul];congr 1;omega
   have h3:a*X≤a*(2*D*N):=Nat.mul_le_mul_left _ hle
   have h4:a*(2*D*N)=2*D*(a*N):=by rw [Nat.mul_left_comm]
   rw [Nat.add_mul,Nat.mul_add]
   omega
 ·rename_i hm1
  obtain ⟨b,rfl⟩:∃ b:Nat,m=(b:Int):=⟨m.toNat,by omega⟩
  split
  ·rw [emptyU,szU,szUs]
   have:=Nat.le_mul_of_pos_right (2*(D+1)) (show 0 < max 1 (a*N+((b:Int) - (a:Int)).toNat*(1+N)) from by omega)
   omega
  ·rename_i h0
   obtain ⟨d,hd⟩:∃ d:Nat,d=((b:Int) - (a:Int)).toNat:=⟨_,rfl⟩
   rw [←hd]
   rw [catU,szU,szUs_append,szUs_rep,hX]
   have h3:a*X≤a*(2*D*N):=Nat.mul_le_mul_left _ hle
   have h4:a*(2*D*N)=2*D*(a*N):=by rw [Nat.mul_left_comm]
   split
   ·rename_i h1
    rw [szUs,szUs,szU_opt,hX,show ((b:Int) - (a:Int) - 1).toNat=d - 1 from by omega,show d - 1+1=d from by omega]
    have h5:d*X≤d*(2*D*N):=Nat.mul_le_mul_left _ hle
    have h6:d*(2*D*N)=2*D*(d*N):=by rw [Nat.mul_left_comm]
    have h7:d*(1+N)=d+d*N:=by rw [Nat.mul_add,Nat.mul_one]
    have h8:1≤d:=by omega
    rw [show max 1 (a*N+d*(1+N))=a*N+(d+d*N) from by omega,e1,Nat.add_mul,Nat.mul_add,Nat.mul_add]
    have h9:d≤2*D*d+d:=by omega
    omega
   ·rename_i h1
    have h8:d=0:=by omega
    have h9:1≤a:=by omega
    have h10:N≤a*N:=Nat.le_mul_of_pos_left N h9
    rw [h8,szUs,Nat.zero_mul,show max 1 (a*N+0)=a*N from by omega,e1,Nat.add_mul]
    omega
mutual
theorem uz_pos:∀ t:Tr.Tr,1≤uz t
 | .mk k r a l n m z i s=>by
  rw [uz]
  split
  ·omega
  ·split <;> omega
end
mutual
theorem sz_le:∀ (t:Tr.Tr) (D:Nat),allB t=true→deep t≤D→szU (unfS t)≤2*D*uz t
 | .mk k r a l n m z i s,D,h,hd=>by
  obtain ⟨hnb,hsub⟩:=(allB_iff _).1 h
  rw [deep] at hd
  obtain ⟨D',rfl⟩:∃ D',D=D'+1:=⟨D - 1,by omega⟩
  have hs:=szs_le l D' hsub (by omega)
  rw [unfS,uz]
  split
  ·rename_i hk
   rw [szU,show 2*(D'+1)=2*D'+2 from by omega,Nat.add_mul,Nat.mul_add]
   omega
  ·rename_i hk
   have hk6:k=6:=by omega
   subst hk6
   have hbd:l.length=1∧0≤n∧(m=-1∨n≤m):=by
    unfold nodeB nodeF at hnb
    simp only [reduceIte,Int.reduceEq,zzc,Bool.or_eq_true,zzg,zyE] at hnb
    exact ⟨hnb.2.1,hnb.2.2.1,hnb.2.2.2.2.imp id (·.1)⟩
   obtain ⟨hl,hn0,hmx⟩:=hbd
   obtain ⟨x,rfl⟩:=List.length_eq_one_iff.1 hl
   simp only [unfSs,szUs,uzs,List.headD_cons,Nat.add_zero] at hs ⊢
   exact szU_rep rfl hs (uz_pos x) hn0 hmx
theorem szs_le:∀ (l:List Tr.Tr) (D:Nat),(∀ u∈l,allB u=true)→deeps l≤D→szUs (unfSs l)≤2*D*uzs l
 | [],_,_,_=>by simp [unfSs,szUs,uzs]
 | t :: l,D,h,hd=>by
  rw [deeps] at hd
  have h1:=sz_le t D (h t zzH) (by omega)
  have h2:=szs_le l D (fun v hv=>h v (zzI _ hv)) (by omega)
  rw [unfSs,szUs,uzs,Nat.mul_add]
  omega
end
theorem mgrt_snoc:∀ (a:List Tr.Tr) (t:Tr.Tr) (g:Int),greatests (a++[t]) g=max (greatests a g) (greatest t)
 | [],t,g=>by rw [zzn,greatests,greatests,greatests]
 | x :: a,t,g=>by rw [zzi,greatests,mgrt_snoc a,greatests]
theorem mgrt_any:∀ (t:Ta) (S:Nat→Prop) (w:World),RT w S t→(∀ b,S b→b < w.heap.size) →
  Calls Tryz.prog 27 #[t.val] w fun e w'=>e=.returned (.int .i64 (greatest t.tr))∧Below w.heap.size w w':=by
 intro t
 induction t using Ta.ind with
 | h t ih =>
  intro S w h hS
  cases t with
  | mk k r ra rc ast l sa sc mn mx z ix nm =>
   obtain ⟨⟨-,-,hll,-⟩,hN,hL⟩:=h.parts
   have IH:=zzA ih
   have HN:=zzA hN
   have HL:=zzA hL
   have HS:=zzA hS
   clear ih hL hS h
   simp only [Ta.val,Ta.vals,Ta.tr,greatest]
   have hb0:Below w.heap.size w (w.alloc (.cells #[.int .i64 k,.slice ra r.length rc,.int .i64 ast,.slice sa l.length sc,.int .i64 mn,.int .i64 mx,.bool z,.int .i64 ix,.string nm] 25)):=(zzb _ _).alloc (zzF _) _
   have hbl:=zyI w 25 [.int .i64 k,.slice ra r.length rc,.int .i64 ast,.slice sa l.length sc,.int .i64 mn,.int .i64 mx,.bool z,.int .i64 ix,.string nm]
   have hsc:=hN.1
   have hsc2:=hN.2.1
   have HB0:=zzA hb0
   have HBL:=zzA hbl
   clear hb0 hbl hN
   have k7:(w.alloc (.cells #[.int .i64 k,.slice ra r.length rc,.int .i64 ast,.slice sa l.length sc,.int .i64 mn,.int .i64 mx,.bool z,.int .i64 ix,.string nm] 25)).cell? ⟨w.heap.size,7,none⟩=some (.int .i64 ix):=HBL.out.cell 7
   have k3:(w.alloc (.cells #[.int .i64 k,.slice ra r.length rc,.int .i64 ast,.slice sa l.length sc,.int .i64 mn,.int .i64 mx,.bool z,.int .i64 ix,.string nm] 25)).cell? ⟨w.heap.size,3,none⟩=some (.slice sa l.length sc):=HBL.out.cell 3
   go_enter Tryz.func27,Tryz.ntmps27
   go_wp2_with fail
   generalize w.alloc (.cells #[.int .i64 k,.slice ra r.length rc,.int .i64 ast,.slice sa l.length sc,.int .i64 mn,.int .i64 mx,.bool z,.int .i64 ix,.string nm] 25)=w1 at *
   go_loopw [3,11] (fun lv iv wr=>∃ (i:Nat),i≤l.length∧iv=.int .i64 (i:Int)∧lv=.int .i64 (greatests (trs (l.take i)) ix)∧Below w1.heap.size w1 wr) (fun _ iv _=>l.length - (intOf iv).toNat)
   case atStart=>exact ⟨0,zzZ _,rfl,by rw [List.take_zero,trs,greatests],zzb _ _⟩
   case round =>
    obtain ⟨i,hi,rfl,rfl,hb⟩:=hrel
    have HB:=zzA hb
    clear hb
    by_cases hlt:i < l.length
    ·have hlt2:(i:Int) < (l.length:Int):=by omega
     obtain ⟨b,off,rfl,hSb,_⟩:=HN.out.2.2.2.2 (by omega)
     obtain ⟨u,hu⟩:∃ u,l[i]?=some u:=⟨_,zzJ hlt⟩
     have hum:u∈l:=zzL hu
     have hbb:=HS.out b hSb
     have hbw:=HB0.out.trans (HB.out.mono HB0.out.size)
     have hcell:∀ j,j < 9→wr.cell? ⟨b,off+i*9+j,none⟩=u.vals[j]?:=fun j hj=>by
      rw [zzy,←HN.out.node hu hj]
      exact hbw.cell (p:=⟨b,off+(i*9+j),none⟩) hbb
     have hba:Below wr.heap.size wr (wr.alloc (.cells u.vals.toArray 25)):=(zzb _ _).alloc (zzF _) _
     have hin:=IH.out u hum S (wr.alloc (.cells u.vals.toArray 25)) ((HL.out u hum).below HS.out (hbw.trans (hba.mono hbw.size))) (fun b hb=>zzQ (HS.out b hb) (zzU hbw.size hba.size))
     have HST:=zzA (show greatests (trs (l.take (i+1))) ix=max (greatests (trs (l.take i)) ix) (greatest u.tr) from by rw [zyD,hu,trs_map,trs_map,zzT];exact mgrt_snoc _ _ _)
     have HBA:=zzA hba
     have HUB:=zzA (zyI wr 25 u.vals)
     generalize greatest u.tr=gu at *
     generalize greatests (trs (l.take i)) ix=gq at *
     cases u with
     | mk k' r' ra' rc' a' l' sa' sc' n' m' z' i' s' =>
     simp only [Ta.vals] at hcell HBA HUB
     simp only [Ta.val,Ta.vals] at hin
     have c0:=hcell 0 (by omega)
     have c1':=hcell 1 (by omega)
     have c2':=hcell 2 (by omega)
     have c3:=hcell 3 (by omega)
     have c4:=hcell 4 (by omega)
     have c5:=hcell 5 (by omega)
     have c6:=hcell 6 (by omega)
     have c7:=hcell 7 (by omega)
     have c8:=hcell 8 (by omega)
     simp only [zzR,zzX,Nat.add_zero] at c0 c1' c2' c3 c4 c5 c6 c7 c8
     have HIN:=zzA hin
     clear hin hcell hu hba hbw hum
     go_wp2_with (go_at_call 27;refine HIN.out.mono ?_;rintro e w2 ⟨rfl,hb2⟩;have HB2:=zzA hb2;clear hb2;simp only [])
     go_roundw
     case rel =>
      exact ⟨i+1,by omega,by go_num,by rw [HST.out];exact congrArg (Value.int .i64) (by show (if gq < gu then gu else gq)=max gq gu;omega),HB.out.trans ((HBA.out.trans (HB2.out.mono HBA.out.size)).mono HB.out.size)⟩
     case measure=>simp [intOf];omega
    ·obtain rfl:i=l.length:=by omega
     have hlt2:¬((l.length:Int) < (l.length:Int)):=by omega
     go_wp2_with fail
     go_ret
     exact ⟨rfl,HB0.out.trans (HB.out.mono HB0.out.size)⟩
theorem mul_sat {a N:Nat}:min (a*min N 2001+1) 2001=min (a*N+1) 2001:=by
 by_cases h:N≤2001
 ·rw [show min N 2001=N from by omega]
 ·rw [show min N 2001=2001 from by omega]
  rcases Nat.eq_zero_or_pos a with rfl | ha
  ·simp
  ·have h1:2001≤a*2001:=Nat.le_mul_of_pos_left _ ha
   have h2:2001≤a*N:=zzU (by omega) (Nat.le_mul_of_pos_left N ha)
   omega
theorem mul_sat2 {a b N:Nat}:min (max 1 (a*min N 2001+b*(1+min N 2001))) 2001=min (max 1 (a*N+b*(1+N))) 2001:=by
 by_cases h:N≤2001
 ·rw [show min N 2001=N from by omega]
 ·rw [show min N 2001=2001 from by omega]
  by_cases hab:a=0∧b=0
  ·simp only [hab.1,hab.2,Nat.zero_mul]
  ·have h1:2001≤a*2001+b*(1+2001):=by
    rcases Nat.eq_zero_or_pos a with rfl | ha
    ·have hb:0 < b:=by omega
     rw [Nat.zero_mul,zzw]
     exact zzU (by decide) (Nat.le_mul_of_pos_left (1+2001) hb)
    ·exact zzU (Nat.le_mul_of_pos_left 2001 ha) (Nat.le_add_right _ _)
   have h2:2001≤a*N+b*(1+N):=by
    have e1:a*2001≤a*N:=Nat.mul_le_mul_left _ (by omega)
    have e2:b*(1+2001)≤b*(1+N):=Nat.mul_le_mul_left _ (by omega)
    omega
   omega
theorem msize_any:∀ (t:Ta) (S:Nat→Prop) (w:World),RT w S t→allB t.tr=true→(∀ b,S b→b < w.heap.size) →
  Calls Tryz.prog 25 #[t.val] w fun e w'=>e=.returned (.int .i64 ((min (uz t.tr) 2001:Nat):Int))∧Below w.heap.size w w':=by
 intro t
 induction t using Ta.ind with
 | h t ih =>
  intro S w h hall hS
  cases t with
  | mk k r ra rc ast l sa sc mn mx z ix nm =>
   obtain ⟨⟨-,-,hll,-⟩,hN,hL⟩:=h.parts
   have IH:=zzA ih
   have HN:=zzA hN
   have HL:=zzA hL
   have HS:=zzA hS
   clear ih hL hS h
   obtain ⟨hnb,hsb⟩:=(allB_iff _).1 hall
   rw [Ta.tr_subs] at hsb
   have HSB:=zzA (show ∀ u∈l,allB u.tr=true from fun u hu=>hsb _ (zzp.2 ⟨u,hu,rfl⟩))
   have HNB:=zzA hnb
   clear hnb hsb hall
   obtain ⟨T,hT⟩:∃ T,T=min (uz (Ta.mk k r ra rc ast l sa sc mn mx z ix nm).tr) 2001:=⟨_,rfl⟩
   rw [←hT]
   have HT:=zzA hT
   clear hT
   simp only [Ta.val,Ta.vals]
   have hb0:Below w.heap.size w (w.alloc (.cells #[.int .i64 k,.slice ra r.length rc,.int .i64 ast,.slice sa l.length sc,.int .i64 mn,.int .i64 mx,.bool z,.int .i64 ix,.string nm] 25)):=(zzb _ _).alloc (zzF _) _
   have hbl:=zyI w 25 [.int .i64 k,.slice ra r.length rc,.int .i64 ast,.slice sa l.length sc,.int .i64 mn,.int .i64 mx,.bool z,.int .i64 ix,.string nm]
   have hsc:=hN.1
   have hsc2:=hN.2.1
   have HB0:=zzA hb0
   have HBL:=zzA hbl
   clear hb0 hbl hN
   have k0:(w.alloc (.cells #[.int .i64 k,.slice ra r.length rc,.int .i64 ast,.slice sa l.length sc,.int .i64 mn,.int .i64 mx,.bool z,.int .i64 ix,.string nm] 25)).cell? ⟨w.heap.size,0,none⟩=some (.int .i64 k):=HBL.out.cell 0
   have k4:(w.alloc (.cells #[.int .i64 k,.slice ra r.length rc,.int .i64 ast,.slice sa l.length sc,.int .i64 mn,.int .i64 mx,.bool z,.int .i64 ix,.string nm] 25)).cell? ⟨w.heap.size,4,none⟩=some (.int .i64 mn):=HBL.out.cell 4
   have k5:(w.alloc (.cells #[.int .i64 k,.slice ra r.length rc,.int .i64 ast,.slice sa l.length sc,.int .i64 mn,.int .i64 mx,.bool z,.int .i64 ix,.string nm] 25)).cell? ⟨w.heap.size,5,none⟩=some (.int .i64 mx):=HBL.out.cell 5
   have k3:(w.alloc (.cells #[.int .i64 k,.slice ra r.length rc,.int .i64 ast,.slice sa l.length sc,.int .i64 mn,.int .i64 mx,.bool z,.int .i64 ix,.string nm] 25)).cell? ⟨w.heap.size,3,none⟩=some (.slice sa l.length sc):=HBL.out.cell 3
   go_enter Tryz.func25,Tryz.ntmps25
   go_wp2_with fail
   generalize w.alloc (.cells #[.int .i64 k,.slice ra r.length rc,.int .i64 ast,.slice sa l.length sc,.int .i64 mn,.int .i64 mx,.bool z,.int .i64 ix,.string nm] 25)=w1 at *
   go_loopw [3,9] (fun lv iv wr=>∃ (i:Nat),i≤l.length∧iv=.int .i64 (i:Int)∧lv=.int .i64 ((min (uzs (trs (l.take i))) 2001:Nat):Int)∧Below w1.heap.size w1 wr) (fun _ iv _=>l.length - (intOf iv).toNat)
   case atStart=>exact ⟨0,zzZ _,rfl,by rw [List.take_zero,trs,uzs];rfl,zzb _ _⟩
   case round =>
    obtain ⟨i,hi,rfl,rfl,hb⟩:=hrel
    have HB:=zzA hb
    clear hb
    by_cases hlt:i < l.length
    ·have hlt2:(i:Int) < (l.length:Int):=by omega
     obtain ⟨b,off,rfl,hSb,_⟩:=HN.out.2.2.2.2 (by omega)
     obtain ⟨u,hu⟩:∃ u,l[i]?=some u:=⟨_,zzJ hlt⟩
     have hum:u∈l:=zzL hu
     have hbb:=HS.out b hSb
     have hbw:=HB0.out.trans (HB.out.mono HB0.out.size)
     have hcell:∀ j,j < 9→wr.cell? ⟨b,off+i*9+j,none⟩=u.vals[j]?:=fun j hj=>by
      rw [zzy,←HN.out.node hu hj]
      exact hbw.cell (p:=⟨b,off+(i*9+j),none⟩) hbb
     have hba:Below wr.heap.size wr (wr.alloc (.cells u.vals.toArray 25)):=(zzb _ _).alloc (zzF _) _
     have hin:=IH.out u hum S (wr.alloc (.cells u.vals.toArray 25)) ((HL.out u hum).below HS.out (hbw.trans (hba.mono hbw.size))) (HSB.out u hum) (fun b hb=>zzQ (HS.out b hb) (zzU hbw.size hba.size))
     have HST:=zzA (uzs_snoc hu)
     have HBA:=zzA hba
     have HUB:=zzA (zyI wr 25 u.vals)
     generalize uz u.tr=gu at *
     generalize uzs (trs (l.take i))=gq at *
     have hw1:IntKind.i64.wrap (((min gq 2001:Nat):Int)+((min gu 2001:Nat):Int))=((min gq 2001:Nat):Int)+((min gu 2001:Nat):Int):=by rw [zzx];omega
     cases u with
     | mk k' r' ra' rc' a' l' sa' sc' n' m' z' i' s' =>
     simp only [Ta.vals] at hcell HBA HUB
     simp only [Ta.val,Ta.vals] at hin
     have c0:=hcell 0 (by omega)
     have c1':=hcell 1 (by omega)
     have c2':=hcell 2 (by omega)
     have c3:=hcell 3 (by omega)
     have c4:=hcell 4 (by omega)
     have c5:=hcell 5 (by omega)
     have c6:=hcell 6 (by omega)
     have c7:=hcell 7 (by omega)
     have c8:=hcell 8 (by omega)
     simp only [zzR,zzX,Nat.add_zero] at c0 c1' c2' c3 c4 c5 c6 c7 c8
     have HIN:=zzA hin
     clear hin hcell hu hba hbw hum
     go_wp2_with (go_at_call 25;refine HIN.out.mono ?_;rintro e w2 ⟨rfl,hb2⟩;have HB2:=zzA hb2;clear hb2;simp only [])
     go_roundw
     case rel =>
      exact ⟨i+1,by omega,by go_num,by rw [HST.out];exact congrArg (Value.int .i64) (by split <;> omega),HB.out.trans ((HBA.out.trans (HB2.out.mono HBA.out.size)).mono HB.out.size)⟩
     case measure=>simp [intOf];omega
    ·obtain rfl:i=l.length:=by omega
     have hlt2:¬((l.length:Int) < (l.length:Int)):=by omega
     rw [List.take_length] at *
     have hBW:=zzA (HB0.out.trans (HB.out.mono HB0.out.size))
     have z0:wr.cell? ⟨w.heap.size,0,none⟩=some (.int .i64 k):=(HB.out.cell (p:=⟨w.heap.size,0,none⟩) HBL.out.lt).trans k0
     have z4:wr.cell? ⟨w.heap.size,4,none⟩=some (.int .i64 mn):=(HB.out.cell (p:=⟨w.heap.size,4,none⟩) HBL.out.lt).trans k4
     have z5:wr.cell? ⟨w.heap.size,5,none⟩=some (.int .i64 mx):=(HB.out.cell (p:=⟨w.heap.size,5,none⟩) HBL.out.lt).trans k5
     have ht:=HT.out
     unfold Ta.tr uz at ht
     obtain ⟨N,hN⟩:∃ N,N=uzs (trs l):=⟨_,rfl⟩
     rw [←hN] at ht ⊢
     have hm2:min N 2001≤2001:=Nat.min_le_right _ _
     clear k0 k3 k4 k5 hN
     by_cases hk:k=6
     ·subst hk
      have hnb:=HNB.out
      unfold Ta.tr nodeB nodeF at hnb
      simp only [reduceIte,Int.reduceEq,zzc,Bool.or_eq_true,zzg,zyE] at hnb
      obtain ⟨-,-,hn0,hn1,hmx⟩:=hnb
      rw [if_neg (by simp)] at ht
      obtain ⟨m0,rfl⟩:∃ m0:Nat,mn=(m0:Int):=⟨mn.toNat,by omega⟩
      obtain ⟨b,hb⟩:∃ b:Nat,b=min N 2001:=⟨_,rfl⟩
      by_cases hm:mx=-1
      ·subst hm
       rw [if_pos rfl,←mul_sat,←hb,zyB] at ht
       rw [←hb]
       obtain ⟨a,ha⟩:∃ a:Nat,a=max m0 1:=⟨_,rfl⟩
       have ha1:1≤a∧a≤1000:=by omega
       rw [←ha] at ht
       obtain ⟨p,hp⟩:∃ p:Nat,p=a*b:=⟨_,rfl⟩
       have hpb:p≤1000*2001:=hp ▸ Nat.mul_le_mul (by omega) (by omega)
       rw [←hp] at ht
       have hw1:IntKind.i64.wrap ((a:Int)*(b:Int))=(p:Int):=by rw [show (a:Int)*(b:Int)=(p:Int) from by rw [hp];simp,zzx];omega
       have hw2:IntKind.i64.wrap ((p:Int)+1)=(p:Int)+1:=by rw [zzx];omega
       have HTT:=zzA ht
       clear hb hm2
       by_cases hm1:m0 < 1
       ·obtain rfl:m0=0:=by omega
        obtain rfl:a=1:=by omega
        obtain rfl:p=b:=by omega
        have hw6:IntKind.i64.wrap (p:Int)=(p:Int):=by rw [zzx];omega
        clear ha hp
        go_wp2_with fail
        all_goals go_ret
        all_goals exact ⟨congrArg (fun z=>Ending.returned (Value.int .i64 z)) (by have:=HTT.out;first | omega | (split <;> omega)),hBW.out⟩
       ·obtain rfl:a=m0:=by omega
        have hm2:¬((a:Int) < 1):=by omega
        clear ha hp
        go_wp2_with fail
        all_goals go_ret
        all_goals exact ⟨congrArg (fun z=>Ending.returned (Value.int .i64 z)) (by have:=HTT.out;first | omega | (split <;> omega)),hBW.out⟩
      ·rcases hmx with hmx | hmx
       ·exact absurd hmx hm
       obtain ⟨m1,rfl⟩:∃ m1:Nat,mx=(m1:Int):=⟨mx.toNat,by omega⟩
       rw [if_neg hm,←mul_sat2,←hb,zyB] at ht
       rw [←hb]
       obtain ⟨d,hd⟩:∃ d:Nat,(m1:Int) - (m0:Int)=(d:Int):=⟨((m1:Int) - (m0:Int)).toNat,by omega⟩
       rw [hd,zyB] at ht
       obtain ⟨p,hp⟩:∃ p:Nat,p=m0*b:=⟨_,rfl⟩
       obtain ⟨q,hq⟩:∃ q:Nat,q=d*(1+b):=⟨_,rfl⟩
       have hpb:p≤1000*2001:=hp ▸ Nat.mul_le_mul (by omega) (by omega)
       have hqb:q≤1000*2002:=hq ▸ Nat.mul_le_mul (by omega) (by omega)
       rw [←hp,←hq] at ht
       have hw1:IntKind.i64.wrap ((m0:Int)*(b:Int))=(p:Int):=by rw [show (m0:Int)*(b:Int)=(p:Int) from by rw [hp];simp,zzx];omega
       have hw2:IntKind.i64.wrap ((m1:Int) - (m0:Int))=(d:Int):=by rw [hd,zzx];omega
       have hw3:IntKind.i64.wrap (1+(b:Int))=1+(b:Int):=by rw [zzx];omega
       have hw4:IntKind.i64.wrap ((d:Int)*(1+(b:Int)))=(q:Int):=by rw [show (d:Int)*(1+(b:Int))=(q:Int) from by rw [hq];simp,zzx];omega
       have hw5:IntKind.i64.wrap ((p:Int)+(q:Int))=(p:Int)+(q:Int):=by rw [zzx];omega
       have hm2':¬((m1:Int)=-1):=by omega
       have hm3:((m1:Int)==-1)=false:=zzh.2 hm2'
       have HTT:=zzA ht
       clear hb hp hq hd hm2
       go_wp2_with fail
       all_goals go_ret
       all_goals exact ⟨congrArg (fun z=>Ending.returned (Value.int .i64 z)) (by have:=HTT.out;first | omega | (split <;> omega)),hBW.out⟩
     ·have hk2:(k==6)=false:=zzh.2 hk
      rw [if_pos hk] at ht
      have hw1:IntKind.i64.wrap (((min N 2001:Nat):Int)+1)=((min N 2001:Nat):Int)+1:=by rw [zzx];omega
      obtain ⟨b,hb⟩:∃ b:Nat,b=min N 2001:=⟨_,rfl⟩
      have ht2:T=min (b+1) 2001:=by omega
      rw [←hb] at hw1 ⊢
      have HTT:=zzA ht2
      clear hb ht ht2 hm2
      go_wp2_with fail
      all_goals go_ret
      all_goals exact ⟨congrArg (fun z=>Ending.returned (Value.int .i64 z)) (by have:=HTT.out;first | omega | (split <;> omega)),hBW.out⟩
theorem rmul_sat {a N:Nat}:min (a*min N 1073741824+1) 1073741824=min (a*N+1) 1073741824:=by
 by_cases h:N≤1073741824
 ·rw [show min N 1073741824=N from by omega]
 ·rw [show min N 1073741824=1073741824 from by omega]
  rcases Nat.eq_zero_or_pos a with rfl | ha
  ·simp
  ·have h1:1073741824≤a*1073741824:=Nat.le_mul_of_pos_left _ ha
   have h2:1073741824≤a*N:=zzU (by omega) (Nat.le_mul_of_pos_left N ha)
   omega
theorem rmul_sat2 {a b N:Nat}:min (max 1 (a*min N 1073741824+b*(1+min N 1073741824))) 1073741824=min (max 1 (a*N+b*(1+N))) 1073741824:=by
 by_cases h:N≤1073741824
 ·rw [show min N 1073741824=N from by omega]
 ·rw [show min N 1073741824=1073741824 from by omega]
  by_cases hab:a=0∧b=0
  ·simp only [hab.1,hab.2,Nat.zero_mul]
  ·have h1:1073741824≤a*1073741824+b*(1+1073741824):=by
    rcases Nat.eq_zero_or_pos a with rfl | ha
    ·have hb:0 < b:=by omega
     rw [Nat.zero_mul,zzw]
     exact zzU (by decide) (Nat.le_mul_of_pos_left (1+1073741824) hb)
    ·exact zzU (Nat.le_mul_of_pos_left 1073741824 ha) (Nat.le_add_right _ _)
   have h2:1073741824≤a*N+b*(1+N):=by
    have e1:a*1073741824≤a*N:=Nat.mul_le_mul_left _ (by omega)
    have e2:b*(1+1073741824)≤b*(1+N):=Nat.mul_le_mul_left _ (by omega)
    omega
   omega
theorem rsize_any:∀ (t:Ta) (S:Nat→Prop) (w:World),RT w S t→allB t.tr=true→(∀ b,S b→b < w.heap.size) →
  Calls Tryz.prog 15 #[t.val] w fun e w'=>e=.returned (.int .i64 ((min (uz t.tr) 1073741824:Nat):Int))∧Below w.heap.size w w':=by
 intro t
 induction t using Ta.ind with
 | h t ih =>
  intro S w h hall hS
  cases t with
  | mk k r ra rc ast l sa sc mn mx z ix nm =>
   obtain ⟨⟨-,-,hll,-⟩,hN,hL⟩:=h.parts
   have IH:=zzA ih
   have HN:=zzA hN
   have HL:=zzA hL
   have HS:=zzA hS
   clear ih hL hS h
   obtain ⟨hnb,hsb⟩:=(allB_iff _).1 hall
   rw [Ta.tr_subs] at hsb
   have HSB:=zzA (show ∀ u∈l,allB u.tr=true from fun u hu=>hsb _ (zzp.2 ⟨u,hu,rfl⟩))
   have HNB:=zzA hnb
   clear hnb hsb hall
   obtain ⟨T,hT⟩:∃ T,T=min (uz (Ta.mk k r ra rc ast l sa sc mn mx z ix nm).tr) 1073741824:=⟨_,rfl⟩
   rw [←hT]
   have HT:=zzA hT
   clear hT
   simp only [Ta.val,Ta.vals]
   have hb0:Below w.heap.size w (w.alloc (.cells #[.int .i64 k,.slice ra r.length rc,.int .i64 ast,.slice sa l.length sc,.int .i64 mn,.int .i64 mx,.bool z,.int .i64 ix,.string nm] 25)):=(zzb _ _).alloc (zzF _) _
   have hbl:=zyI w 25 [.int .i64 k,.slice ra r.length rc,.int .i64 ast,.slice sa l.length sc,.int .i64 mn,.int .i64 mx,.bool z,.int .i64 ix,.string nm]
   have hsc:=hN.1
   have hsc2:=hN.2.1
   have HB0:=zzA hb0
   have HBL:=zzA hbl
   clear hb0 hbl hN
   go_enter Tryz.func15,Tryz.ntmps15
   go_wp2_with fail
   generalize (w.alloc (.cells #[.int .i64 k,.slice ra r.length rc,.int .i64 ast,.slice sa l.length sc,.int .i64 mn,.int .i64 mx,.bool z,.int .i64 ix,.string nm] 25))=w1 at *
   go_loopw [3,4] (fun lv iv wr=>∃ (i:Nat),i≤l.length∧iv=.int .i64 (i:Int)∧lv=.int .i64 ((min (uzs (trs (l.take i))) 1073741824:Nat):Int)∧Below w1.heap.size w1 wr) (fun _ iv _=>l.length - (intOf iv).toNat)
   case atStart=>exact ⟨0,zzZ _,rfl,by rw [List.take_zero,trs,uzs];rfl,zzb _ _⟩
   case round =>
    obtain ⟨i,hi,rfl,rfl,hb⟩:=hrel
    have HB:=zzA hb
    have HBW:=zzA (HBL.out.below hb HBL.out.lt)
    have r3:wr.cell? ⟨w.heap.size,3,none⟩=some (.slice sa l.length sc):=HBW.out.cell 3
    clear hb
    by_cases hlt:i < l.length
    ·have hlt2:(i:Int) < (l.length:Int):=by omega
     obtain ⟨b,off,rfl,hSb,_⟩:=HN.out.2.2.2.2 (by omega)
     obtain ⟨u,hu⟩:∃ u,l[i]?=some u:=⟨_,zzJ hlt⟩
     have hum:u∈l:=zzL hu
     have hbb:=HS.out b hSb
     have hbw:=HB0.out.trans (HB.out.mono HB0.out.size)
     have hcell:∀ j,j < 9→wr.cell? ⟨b,off+i*9+j,none⟩=u.vals[j]?:=fun j hj=>by
      rw [zzy,←HN.out.node hu hj]
      exact hbw.cell (p:=⟨b,off+(i*9+j),none⟩) hbb
     have hin:=IH.out u hum S wr ((HL.out u hum).below HS.out hbw) (HSB.out u hum) (fun b hb=>zzQ (HS.out b hb) hbw.size)
     have HST:=zzA (uzs_snoc hu)
     generalize uz u.tr=gu at *
     generalize uzs (trs (l.take i))=gq at *
     have hw1:IntKind.i64.wrap (((min gq 1073741824:Nat):Int)+((min gu 1073741824:Nat):Int))=((min gq 1073741824:Nat):Int)+((min gu 1073741824:Nat):Int):=by rw [zzx];omega
     cases u with
     | mk k' r' ra' rc' a' l' sa' sc' n' m' z' i' s' =>
     simp only [Ta.vals] at hcell
     simp only [Ta.val,Ta.vals] at hin
     have c0:=hcell 0 (by omega)
     have c1':=hcell 1 (by omega)
     have c2':=hcell 2 (by omega)
     have c3:=hcell 3 (by omega)
     have c4:=hcell 4 (by omega)
     have c5:=hcell 5 (by omega)
     have c6:=hcell 6 (by omega)
     have c7:=hcell 7 (by omega)
     have c8:=hcell 8 (by omega)
     simp only [zzR,zzX,Nat.add_zero] at c0 c1' c2' c3 c4 c5 c6 c7 c8
     have HIN:=zzA hin
     clear hin hcell hu hbw hum
     go_wp2_with (go_at_call 15;refine HIN.out.mono ?_;rintro e w2 ⟨rfl,hb2⟩;have HB2:=zzA hb2;clear hb2;simp only [])
     go_roundw
     case rel =>
      exact ⟨i+1,by omega,by go_num,by rw [HST.out];exact congrArg (Value.int .i64) (by split <;> omega),HB.out.trans (HB2.out.mono HB.out.size)⟩
     case measure=>simp [intOf];omega
    ·obtain rfl:i=l.length:=by omega
     have hlt2:¬((l.length:Int) < (l.length:Int)):=by omega
     rw [List.take_length] at *
     have hBW:=zzA (HB0.out.trans (HB.out.mono HB0.out.size))
     have z0:wr.cell? ⟨w.heap.size,0,none⟩=some (.int .i64 k):=HBW.out.cell 0
     have z4:wr.cell? ⟨w.heap.size,4,none⟩=some (.int .i64 mn):=HBW.out.cell 4
     have z5:wr.cell? ⟨w.heap.size,5,none⟩=some (.int .i64 mx):=HBW.out.cell 5
     have ht:=HT.out
     unfold Ta.tr uz at ht
     obtain ⟨N,hN⟩:∃ N,N=uzs (trs l):=⟨_,rfl⟩
     have HNN:=zzA hN
     rw [←hN] at ht ⊢
     have hm2:min N 1073741824≤1073741824:=Nat.min_le_right _ _
     clear hN
     have hnb:=HNB.out
     unfold Ta.tr nodeB at hnb
     by_cases hk:k=6
     ·subst hk
      unfold nodeF at hnb
      simp only [reduceIte,Int.reduceEq,zzc,Bool.or_eq_true,zzg,zyE] at hnb
      obtain ⟨-,-,hn0,hn1,hmx⟩:=hnb
      rw [if_neg (by simp)] at ht
      obtain ⟨m0,rfl⟩:∃ m0:Nat,mn=(m0:Int):=⟨mn.toNat,by omega⟩
      obtain ⟨b,hb⟩:∃ b:Nat,b=min N 1073741824:=⟨_,rfl⟩
      by_cases hm:mx=-1
      ·subst hm
       rw [if_pos rfl,←rmul_sat,←hb,zyB] at ht
       rw [←hb]
       by_cases hm1:m0=0
       ·subst hm1
        obtain ⟨v,hv⟩:∃ v:Int,v=1+(b:Int):=⟨_,rfl⟩
        have hw1:IntKind.i64.wrap (1+(b:Int))=v:=by rw [zzx];omega
        have HV:=zzA hv
        have ht2:T=min (b+1) 1073741824:=by rw [show max 0 1=1 from rfl,Nat.one_mul] at ht;exact ht
        have HTT:=zzA ht2
        clear hb hm2 ht ht2 hv
        go_wp2_with fail
        all_goals go_ret
        all_goals exact ⟨congrArg (fun z=>Ending.returned (Value.int .i64 z)) (by have:=HTT.out;have:=HV.out;first | omega | (split <;> omega)),hBW.out⟩
       ·have hm3:((m0:Int)==0)=false:=zzh.2 (by omega)
        obtain ⟨p,hp⟩:∃ p:Nat,p=m0*b:=⟨_,rfl⟩
        have hpb:p≤1000*1073741824:=hp ▸ Nat.mul_le_mul (by omega) (by omega)
        rw [show max m0 1=m0 from by omega,←hp] at ht
        have hw1:IntKind.i64.wrap ((m0:Int)*(b:Int))=(p:Int):=by rw [show (m0:Int)*(b:Int)=(p:Int) from by rw [hp];simp,zzx];omega
        obtain ⟨v,hv⟩:∃ v:Int,v=(p:Int)+1:=⟨_,rfl⟩
        have hw2:IntKind.i64.wrap ((p:Int)+1)=v:=by rw [zzx];omega
        have HV:=zzA hv
        have HTT:=zzA ht
        clear hb hm2 hp ht hm1 hv
        go_wp2_with fail
        all_goals go_ret
        all_goals exact ⟨congrArg (fun z=>Ending.returned (Value.int .i64 z)) (by have:=HTT.out;have:=HV.out;first | omega | (split <;> omega)),hBW.out⟩
      ·rcases hmx with hmx | hmx
       ·exact absurd hmx hm
       obtain ⟨m1,rfl⟩:∃ m1:Nat,mx=(m1:Int):=⟨mx.toNat,by omega⟩
       rw [if_neg hm,←rmul_sat2,←hb,zyB] at ht
       rw [←hb]
       obtain ⟨d,hd⟩:∃ d:Nat,(m1:Int) - (m0:Int)=(d:Int):=⟨((m1:Int) - (m0:Int)).toNat,by omega⟩
       rw [hd,zyB] at ht
       obtain ⟨p,hp⟩:∃ p:Nat,p=m0*b:=⟨_,rfl⟩
       obtain ⟨q,hq⟩:∃ q:Nat,q=d*(1+b):=⟨_,rfl⟩
       have hpb:p≤1000*1073741824:=hp ▸ Nat.mul_le_mul (by omega) (by omega)
       have hqb:q≤1000*(1+1073741824):=hq ▸ Nat.mul_le_mul (by omega) (by omega)
       rw [←hp,←hq] at ht
       have hw1:IntKind.i64.wrap ((m0:Int)*(b:Int))=(p:Int):=by rw [show (m0:Int)*(b:Int)=(p:Int) from by rw [hp];simp,zzx];omega
       have hw2:IntKind.i64.wrap ((m1:Int) - (m0:Int))=(d:Int):=by rw [hd,zzx];omega
       have hw3:IntKind.i64.wrap (1+(b:Int))=1+(b:Int):=by rw [zzx];omega
       have hw4:IntKind.i64.wrap ((d:Int)*(1+(b:Int)))=(q:Int):=by rw [show (d:Int)*(1+(b:Int))=(q:Int) from by rw [hq];simp,zzx];omega
       have hw5:IntKind.i64.wrap ((p:Int)+(q:Int))=(p:Int)+(q:Int):=by rw [zzx];omega
       have hm4:¬((m1:Int) < 0):=by omega
       have HTT:=zzA ht
       clear hb hp hq hd hm2 ht
       go_wp2_with fail
       all_goals go_ret
       all_goals exact ⟨congrArg (fun z=>Ending.returned (Value.int .i64 z)) (by have:=HTT.out;first | omega | (split <;> omega)),hBW.out⟩
     ·have hk2:(k==6)=false:=zzh.2 hk
      rw [if_pos hk] at ht
      have hw1:IntKind.i64.wrap (1+((min N 1073741824:Nat):Int))=1+((min N 1073741824:Nat):Int):=by rw [zzx];omega
      obtain ⟨b,hb⟩:∃ b:Nat,b=min N 1073741824:=⟨_,rfl⟩
      have ht2:T=min (b+1) 1073741824:=by omega
      have hsub:k≠4→k≠5→k≠7→b=0:=fun h4 h5 h7=>by
       have:(trs l).length=0:=by
        dsimp only at hnb
        unfold nodeF at hnb
        repeat' split at hnb
        all_goals first
         | exact absurd (by assumption) h4
         | exact absurd (by assumption) h5
         | exact absurd (by assumption) h7
         | exact absurd (by assumption) hk
         | cases hnb
         | (simp only [zzc,zyE] at hnb;exact hnb.2.1)
         | (simp only [zzc,zyE] at hnb;exact hnb.2)
       have h0:trs l=[]:=zzq this
       rw [hb,HNN.out,h0,uzs];rfl
      rw [←hb] at hw1 ⊢
      obtain ⟨v,hv⟩:∃ v:Int,v=1+(b:Int):=⟨_,rfl⟩
      replace hw1:IntKind.i64.wrap (1+(b:Int))=v:=by rw [hw1,hv]
      have HV:=zzA hv
      have HTT:=zzA ht2
      have HSUB:=zzA hsub
      clear hb ht ht2 hm2 hnb hsub hv
      by_cases h4:k=4
      ·subst h4
       go_wp2_with fail
       all_goals go_ret
       all_goals exact ⟨congrArg (fun z=>Ending.returned (Value.int .i64 z)) (by have:=HTT.out;have:=HV.out;first | omega | (split <;> omega)),hBW.out⟩
      by_cases h5:k=5
      ·subst h5
       go_wp2_with fail
       all_goals go_ret
       all_goals exact ⟨congrArg (fun z=>Ending.returned (Value.int .i64 z)) (by have:=HTT.out;have:=HV.out;first | omega | (split <;> omega)),hBW.out⟩
      by_cases h7:k=7
      ·subst h7
       go_wp2_with fail
       all_goals go_ret
       all_goals exact ⟨congrArg (fun z=>Ending.returned (Value.int .i64 z)) (by have:=HTT.out;have:=HV.out;first | omega | (split <;> omega)),hBW.out⟩
      have g4:(k==4)=false:=zzh.2 h4
      have g5:(k==5)=false:=zzh.2 h5
      have g7:(k==7)=false:=zzh.2 h7
      have HZ:=zzA (HSUB.out h4 h5 h7)
      go_wp2_with fail
      all_goals go_ret
      all_goals exact ⟨congrArg (fun z=>Ending.returned (Value.int .i64 z)) (by have:=HTT.out;have:=HZ.out;omega),hBW.out⟩
theorem rgrt_snoc:∀ (a:List Tr.Tr) (t:Tr.Tr) (g:Int),greatests (a++[t]) g=max (greatests a g) (greatest t)
 | [],t,g=>by rw [zzn,greatests,greatests,greatests]
 | x :: a,t,g=>by rw [zzi,greatests,rgrt_snoc a,greatests]
theorem rgrt_any:∀ (t:Ta) (S:Nat→Prop) (w:World),RT w S t→(∀ b,S b→b < w.heap.size) →
  Calls Tryz.prog 16 #[t.val] w fun e w'=>e=.returned (.int .i64 (greatest t.tr))∧Below w.heap.size w w':=by
 intro t
 induction t using Ta.ind with
 | h t ih =>
  intro S w h hS
  cases t with
  | mk k r ra rc ast l sa sc mn mx z ix nm =>
   obtain ⟨⟨-,-,hll,-⟩,hN,hL⟩:=h.parts
   have IH:=zzA ih
   have HN:=zzA hN
   have HL:=zzA hL
   have HS:=zzA hS
   clear ih hL hS h
   simp only [Ta.val,Ta.vals,Ta.tr,greatest]
   have hb0:Below w.heap.size w (w.alloc (.cells #[.int .i64 k,.slice ra r.length rc,.int .i64 ast,.slice sa l.length sc,.int .i64 mn,.int .i64 mx,.bool z,.int .i64 ix,.string nm] 25)):=(zzb _ _).alloc (zzF _) _
   have hbl:=zyI w 25 [.int .i64 k,.slice ra r.length rc,.int .i64 ast,.slice sa l.length sc,.int .i64 mn,.int .i64 mx,.bool z,.int .i64 ix,.string nm]
   have hsc:=hN.1
   have hsc2:=hN.2.1
   have HB0:=zzA hb0
   have HBL:=zzA hbl
   clear hb0 hbl hN
   have k7:(w.alloc (.cells #[.int .i64 k,.slice ra r.length rc,.int .i64 ast,.slice sa l.length sc,.int .i64 mn,.int .i64 mx,.bool z,.int .i64 ix,.string nm] 25)).cell? ⟨w.heap.size,7,none⟩=some (.int .i64 ix):=HBL.out.cell 7
   go_enter Tryz.func16,Tryz.ntmps16
   go_wp2_with fail
   generalize (w.alloc (.cells #[.int .i64 k,.slice ra r.length rc,.int .i64 ast,.slice sa l.length sc,.int .i64 mn,.int .i64 mx,.bool z,.int .i64 ix,.string nm] 25))=w1 at *
   go_loopw [3,4] (fun lv iv wr=>∃ (i:Nat),i≤l.length∧iv=.int .i64 (i:Int)∧lv=.int .i64 (greatests (trs (l.take i)) ix)∧Below w1.heap.size w1 wr) (fun _ iv _=>l.length - (intOf iv).toNat)
   case atStart=>exact ⟨0,zzZ _,rfl,by rw [List.take_zero,trs,greatests],zzb _ _⟩
   case round =>
    obtain ⟨i,hi,rfl,rfl,hb⟩:=hrel
    have HB:=zzA hb
    have HBW:=zzA (HBL.out.below hb HBL.out.lt)
    have r3:wr.cell? ⟨w.heap.size,3,none⟩=some (.slice sa l.length sc):=HBW.out.cell 3
    clear hb
    by_cases hlt:i < l.length
    ·have hlt2:(i:Int) < (l.length:Int):=by omega
     obtain ⟨b,off,rfl,hSb,_⟩:=HN.out.2.2.2.2 (by omega)
     obtain ⟨u,hu⟩:∃ u,l[i]?=some u:=⟨_,zzJ hlt⟩
     have hum:u∈l:=zzL hu
     have hbb:=HS.out b hSb
     have hbw:=HB0.out.trans (HB.out.mono HB0.out.size)
     have hcell:∀ j,j < 9→wr.cell? ⟨b,off+i*9+j,none⟩=u.vals[j]?:=fun j hj=>by
      rw [zzy,←HN.out.node hu hj]
      exact hbw.cell (p:=⟨b,off+(i*9+j),none⟩) hbb
     have hin:=IH.out u hum S wr ((HL.out u hum).below HS.out hbw) (fun b hb=>zzQ (HS.out b hb) hbw.size)
     have HST:=zzA (show greatests (trs (l.take (i+1))) ix=max (greatests (trs (l.take i)) ix) (greatest u.tr) from by rw [zyD,hu,trs_map,trs_map,zzT];exact rgrt_snoc _ _ _)
     generalize greatest u.tr=gu at *
     generalize greatests (trs (l.take i)) ix=gq at *
     cases u with
     | mk k' r' ra' rc' a' l' sa' sc' n' m' z' i' s' =>
     simp only [Ta.vals] at hcell
     simp only [Ta.val,Ta.vals] at hin
     have c0:=hcell 0 (by omega)
     have c1':=hcell 1 (by omega)
     have c2':=hcell 2 (by omega)
     have c3:=hcell 3 (by omega)
     have c4:=hcell 4 (by omega)
     have c5:=hcell 5 (by omega)
     have c6:=hcell 6 (by omega)
     have c7:=hcell 7 (by omega)
     have c8:=hcell 8 (by omega)
     simp only [zzR,zzX,Nat.add_zero] at c0 c1' c2' c3 c4 c5 c6 c7 c8
     have HIN:=zzA hin
     clear hin hcell hu hbw hum
     go_wp2_with (go_at_call 16;refine HIN.out.mono ?_;rintro e w2 ⟨rfl,hb2⟩;have HB2:=zzA hb2;clear hb2;simp only [])
     go_roundw
     case rel =>
      exact ⟨i+1,by omega,by go_num,by rw [HST.out];exact congrArg (Value.int .i64) (by show (if gq < gu then gu else gq)=max gq gu;omega),HB.out.trans (HB2.out.mono HB.out.size)⟩
     case measure=>simp [intOf];omega
    ·obtain rfl:i=l.length:=by omega
     have hlt2:¬((l.length:Int) < (l.length:Int)):=by omega
     go_wp2_with fail
     go_ret
     exact ⟨rfl,HB0.out.trans (HB.out.mono HB0.out.size)⟩
theorem ar_w1 {q:Int} (h1:1≤q) (h2:q≤1099511627776):1≤wrap64 q∧wrap64 q≤1099511627776:=by
 have e:wrap64 q=q:=by unfold wrap64;omega
 rw [e];exact ⟨h1,h2⟩
theorem ar_w {x q:Int} (hx:1≤x) (hq:1≤q) (h:x≤1099511627776 / q):1≤wrap64 (x*q)∧wrap64 (x*q)≤1099511627776:=by
 have h1:x*q≤1099511627776:=Int.mul_le_of_le_ediv (by omega) h
 have h2:1≤x*q:=by
  have:=Int.mul_le_mul hx hq (by decide) (by omega)
  simpa using this
 exact ar_w1 h2 h1
theorem weight_any:∀ (t:Ta) (S:Nat→Prop) (w:World),RT w S t→(∀ b,S b→b < w.heap.size) →
  Calls Tryz.prog 13 #[t.val] w fun e w'=>(∃ q:Int,1≤q∧q≤1099511627776∧e=.returned (.int .i64 q))∧Below w.heap.size w w':=by
 intro t
 induction t using Ta.ind with
 | h t ih =>
  intro S w h hS
  cases t with
  | mk k r ra rc ast l sa sc mn mx z ix nm =>
   obtain ⟨⟨hR,hrl,hll⟩,hN,hL⟩:=h.parts
   have IH:=zzA ih
   have HN:=zzA hN
   have HL:=zzA hL
   have HS:=zzA hS
   clear ih hL hS h
   simp only [Ta.val,Ta.vals]
   have hb0:Below w.heap.size w (w.alloc (.cells #[.int .i64 k,.slice ra r.length rc,.int .i64 ast,.slice sa l.length sc,.int .i64 mn,.int .i64 mx,.bool z,.int .i64 ix,.string nm] 25)):=(zzb _ _).alloc (zzF _) _
   have hbl:=zyI w 25 [.int .i64 k,.slice ra r.length rc,.int .i64 ast,.slice sa l.length sc,.int .i64 mn,.int .i64 mx,.bool z,.int .i64 ix,.string nm]
   have hsc:=hN.1
   have hsc2:=hN.2.1
   have hrc:=hR.1
   have hrc2:=hR.2.1
   have HB0:=zzA hb0
   have HBL:=zzA hbl
   clear hb0 hbl hN hR
   go_enter Tryz.func13,Tryz.ntmps13
   go_wp2_with fail
   generalize w.alloc (.cells #[.int .i64 k,.slice ra r.length rc,.int .i64 ast,.slice sa l.length sc,.int .i64 mn,.int .i64 mx,.bool z,.int .i64 ix,.string nm] 25)=w1 at *
   go_loopw [3,4] (fun nv iv wr=>∃ (i:Nat) (q:Int),i≤l.length∧iv=.int .i64 (i:Int)∧nv=.int .i64 q∧1≤q∧q≤1099511627776∧Below w1.heap.size w1 wr) (fun _ iv _=>l.length - (intOf iv).toNat)
   case atStart=>exact ⟨0,1+(r.length:Int),zzZ _,rfl,by go_num,by omega,by omega,zzb _ _⟩
   case round =>
    obtain ⟨i,q,hi,rfl,rfl,hq1,hq2,hb⟩:=hrel
    have HB:=zzA hb
    have r0:wr.cell? ⟨w.heap.size,0,none⟩=some (.int .i64 k):=(HBL.out.below hb HBL.out.lt).cell 0
    have r3:wr.cell? ⟨w.heap.size,3,none⟩=some (.slice sa l.length sc):=(HBL.out.below hb HBL.out.lt).cell 3
    have r4:wr.cell? ⟨w.heap.size,4,none⟩=some (.int .i64 mn):=(HBL.out.below hb HBL.out.lt).cell 4
    have r5:wr.cell? ⟨w.heap.size,5,none⟩=some (.int .i64 mx):=(HBL.out.below hb HBL.out.lt).cell 5
    have r9:=(HBL.out.below hb HBL.out.lt).lt
    clear hb
    by_cases hlt:i < l.length
    ·have hlt2:(i:Int) < (l.length:Int):=by omega
     obtain ⟨b,off,rfl,hSb,_⟩:=HN.out.2.2.2.2 (by omega)
     obtain ⟨u,hu⟩:∃ u,l[i]?=some u:=⟨_,zzJ hlt⟩
     have hum:u∈l:=zzL hu
     have hbb:=HS.out b hSb
     have hcell:∀ j,j < 9→wr.cell? ⟨b,off+i*9+j,none⟩=u.vals[j]?:=fun j hj=>by
      rw [zzy]
      rw [←HN.out.node hu hj]
      exact ((HB0.out.trans (HB.out.mono HB0.out.size)).cell (p:=⟨b,off+(i*9+j),none⟩) hbb)
     have hin:=(IH.out u hum S wr ((HL.out u hum).below HS.out (HB0.out.trans (HB.out.mono HB0.out.size))) (fun b hb=>zzQ (HS.out b hb) (zzU HB0.out.size HB.out.size)))
     cases u with
     | mk k' r' ra' rc' a' l' sa' sc' n' m' z' i' s' =>
     simp only [Ta.vals] at hcell
     simp only [Ta.val,Ta.vals] at hin
     have c0:=hcell 0 (by omega)
     have c1:=hcell 1 (by omega)
     have c2:=hcell 2 (by omega)
     have c3:=hcell 3 (by omega)
     have c4:=hcell 4 (by omega)
     have c5:=hcell 5 (by omega)
     have c6:=hcell 6 (by omega)
     have c7:=hcell 7 (by omega)
     have c8:=hcell 8 (by omega)
     simp only [zzR,zzX,Nat.add_zero] at c0 c1 c2 c3 c4 c5 c6 c7 c8
     have HIN:=zzA hin
     clear hin hcell hu
     go_wp2_with (go_at_call 13;refine HIN.out.mono ?_;rintro e w2 ⟨⟨q2,hp1,hp2,rfl⟩,hb2⟩;have HB2:=zzA hb2;clear hb2;simp only [])
     go_roundw
     case rel =>
      exact ⟨i+1,min 1099511627776 (q+q2),by omega,by go_num,by go_num,by omega,by omega,HB.out.trans (HB2.out.mono HB.out.size)⟩
     case measure=>simp [intOf];omega
    ·obtain rfl:i=l.length:=by omega
     have hlt2:¬((l.length:Int) < (l.length:Int)):=by omega
     have hq0:¬(q=0):=by omega
     have hbb:=HB0.out.trans (HB.out.mono HB0.out.size)
     have HBB:=zzA hbb
     clear hbb
     by_cases hk6:k=6
     all_goals
      go_wp2_with fail
     all_goals
      go_ret
      refine ⟨?_,HBB.out⟩
      first
       | exact ⟨_,by decide,by decide,rfl⟩
       | exact ⟨q,hq1,hq2,rfl⟩
       | exact ⟨_,(ar_w (x:=mn) (by omega) hq1 (by omega)).1,(ar_w (x:=mn) (by omega) hq1 (by omega)).2,rfl⟩
       | exact ⟨_,(ar_w (x:=mx) (by omega) hq1 (by omega)).1,(ar_w (x:=mx) (by omega) hq1 (by omega)).2,rfl⟩
       | exact ⟨_,(ar_w1 hq1 hq2).1,(ar_w1 hq1 hq2).2,rfl⟩
theorem heavy_any (t:Ta) (S:Nat→Prop) (w:World) (h:RT w S t) (hS:∀ b,S b→b < w.heap.size) :
  Calls Tryz.prog 5 #[t.val] w fun e w'=>(∃ b:Bool,e=.returned (.bool b))∧Below w.heap.size w w':=by
 have hb0:Below w.heap.size w (w.alloc (.cells t.vals.toArray 25)):=(zzb _ _).alloc (zzF _) _
 have HB0:=zzA hb0
 have HG:=zzA (weight_any t S (w.alloc (.cells t.vals.toArray 25)) (h.below hS hb0) (fun b hb=>zzQ (hS b hb) hb0.size))
 clear h hS hb0
 cases t with
 | mk k r ra rc ast l sa sc mn mx z ix nm =>
 simp only [Ta.val,Ta.vals] at HG HB0 ⊢
 go_enter Tryz.func5,Tryz.ntmps5
 go_wp2_with (go_at_call 13;refine HG.out.mono ?_;rintro e w2 ⟨⟨q,hq1,hq2,rfl⟩,hb2⟩;have HB2:=zzA hb2;clear hb2;simp only [])
 go_ret
 exact ⟨⟨_,rfl⟩,HB0.out.trans (HB2.out.mono HB0.out.size)⟩
end Go.Proofs.YtgkclnmmjedmkaaGreat
namespace Go.Proofs.YtgkclnmmjedmkaaGreat.Mach
section
variable {p:Prg} {t:List Int} {a:Int}
def oneR (p:Prg) (t:List Int) (i:Nat):Option (List Int × Int):=(oneAt p t i).fin.map fun w=>((oneAt p t i).caps,w)
theorem runR_ok {anch:Bool} (h:(runR p t a anch).1=0):t.length≤4194304∧checkB p=true∧0≤a∧a≤t.length∧p.insts.length*(t.length - a.toNat+1)≤16777216 ∧
  runR p t a anch=(0,search p t a.toNat anch (t.length+1 - a.toNat) a.toNat (List.replicate (p.insts.length*places t a.toNat) false) 0):=by
 unfold runR at h ⊢
 by_cases h1:4194304 < t.length
 ·rw [if_pos h1] at h;cases h
 rw [if_neg h1] at h ⊢
 by_cases h2:checkB p=false
 ·rw [if_pos h2] at h;cases h
 rw [if_neg h2] at h ⊢
 by_cases h3:a < 0∨(t.length:Int) < a
 ·rw [if_pos h3] at h;cases h
 rw [if_neg h3] at h ⊢
 by_cases h4:16777216 < p.insts.length*(t.length - a.toNat+1)
 ·rw [if_pos h4] at h;cases h
 rw [if_neg h4]
 exact ⟨by omega,by simpa using h2,by omega,by omega,by omega,rfl⟩
theorem runR_at (h1:t.length≤4194304) (hc:checkB p=true) {b:Nat} (h4:p.insts.length*(t.length - b+1)≤16777216) {i:Nat} (hi:b≤i∧i≤t.length):runR p t (i:Int) true=(0,oneR p t i,(oneAt p t i).steps):=by
 have hle:p.insts.length*(t.length - i+1)≤p.insts.length*(t.length - b+1):=Nat.mul_le_mul_left _ (by omega)
 unfold runR
 rw [if_neg (by omega),if_neg (by rw [hc];simp),if_neg (by omega),zyB,if_neg (by omega)]
 obtain ⟨n,hn⟩:∃ n,t.length+1 - i=n+1:=⟨t.length - i,by omega⟩
 rw [hn,search_one]
 rfl
structure Told (p:Prg) (t:List Int) (a:Int):Prop where
 len:t.length≤4194304
 chk:checkB p=true
 a0:0≤a
 a1:a≤t.length
 one:∀ i:Nat,a.toNat≤i→i≤t.length→runR p t (i:Int) true=(0,oneR p t i,(oneAt p t i).steps)
 s0:1≤(runR p t a false).2.2
 s1:1≤(runR p t a true).2.2
 s2:(runR p t a false).2.2≤p.insts.length*(t.length - a.toNat+1)
 s3:(runR p t a true).2.2≤(runR p t a false).2.2
 room:p.insts.length*(t.length - a.toNat+1)≤16777216
 tells:((runR p t a false).2.1=none∧∀ i,a.toNat≤i→i≤t.length→oneR p t i=none)∨(∃ j,(runR p t a false).2.1=oneR p t j∧(oneR p t j).isSome=true∧a.toNat≤j∧j≤t.length∧∀ i,a.toNat≤i→i < j→oneR p t i=none)
theorem told (h:(runR p t a false).1=0):Told p t a:=by
 obtain ⟨h1,hc,h2,h3,h4,he⟩:=runR_ok h
 obtain ⟨⟨s0,s2,s3,s1⟩,ht⟩:=run_tells (t:=t) hc (a:=a.toNat) (by omega)
 have hone:=fun (i:Nat) (hi1:a.toNat≤i) (hi2:i≤t.length)=>runR_at h1 hc h4 ⟨hi1,hi2⟩
 have h0:=hone a.toNat (zzF _) (by omega)
 rw [Int.toNat_of_nonneg h2] at h0
 refine ⟨h1,hc,h2,h3,hone,by rw [he];exact s0,by rw [h0];exact s1,by rw [he];exact s2,by rw [h0,he];exact s3,h4,?_⟩
 rw [he]
 rcases ht with ⟨e1,e2⟩ | ⟨j,w,e1,e2,e3,e4,e5⟩
 ·exact .inl ⟨e1,fun i hi1 hi2=>by unfold oneR;rw [e2 i hi1 hi2];rfl⟩
 ·refine .inr ⟨j,?_,by unfold oneR;rw [e2];rfl,e3,e4,fun i hi1 hi2=>by unfold oneR;rw [e5 i hi1 hi2];rfl⟩
  show _=oneR p t j
  unfold oneR
  rw [e2]
  exact e1
end
end Go.Proofs.YtgkclnmmjedmkaaGreat.Mach
