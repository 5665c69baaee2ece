/- heronlaw05.great, Deep: how great a tree is. -/
import Derived.Handy
import Derived.BigQuiet
import Derived.Deep.QuietTactic
import Derived.Test.YtkhkllpdhnmhkaaP01
import Derived.Test.YtkhkllpdhnmhkaaP04
import Derived.Test.YtkhkllpdhnmhkaaP05
import Derived.Test.YtkhkllpdhnmhkaaP06
import Derived.Test.YtkhkllpdhnmhkaaP07
namespace Go.Proofs.Ytkhkllpdhnmhkaa
open Go.RowKit Tr
theorem sizes_take {l:List Ta} {i:Nat} {t:Ta} (h:l[i]?=some t):sizes (trs (l.take (i+1)))=sizes (trs (l.take i))+size t.tr:=by
 rw [List.take_add_one,h,trs_map,trs_map,zzT]
 have:∀ a b:List Tr,sizes (a++b)=sizes a+sizes b:=by
  intro a b
  induction a with
  | nil=>simp [sizes]
  | cons x a ih=>rw [List.cons_append,sizes,sizes,ih];omega
 rw [this];simp [sizes]
theorem sizes_take_le (l:List Ta) (i:Nat):sizes (trs (l.take i))≤sizes (trs l):=by
 have:∀ a b:List Tr,sizes (a++b)=sizes a+sizes b:=by
  intro a b
  induction a with
  | nil=>simp [sizes]
  | cons x a ih=>rw [List.cons_append,sizes,sizes,ih];omega
 have e:sizes (trs l)=sizes (trs (l.take i))+sizes (trs (l.drop i)):=by
  rw [trs_map,trs_map,trs_map,←this,←zzT,List.take_append_drop]
 omega
theorem Ta.tr_size (k:Int) (r:List (Int × Int)) (ra:Option Addr) (rc:Nat) (a:Int) (l:List Ta) (sa:Option Addr) (sc:Nat) (mn mx:Int) (z:Bool) (i:Int) (s:ByteArray):size (Ta.mk k r ra rc a l sa sc mn mx z i s).tr=sizes (trs l)+1:=by
 rw [Ta.tr,size]
theorem RdA.node {w:World} {S:Nat→Prop} {b off c:Nat} {l:List Ta} {j:Nat} {t:Ta} (h:RdA w S 9 (some ⟨b,off,none⟩) l.length c (rowT l)) (ht:l[j]?=some t) {q:Nat} (hq:q < 9):w.cell? ⟨b,off+(j*9+q),none⟩=t.vals[q]?:=by
 have hl:j < l.length:=(zzK.1 ht).1
 obtain ⟨b',off',e,_,hc⟩:=h.2.2.2.2 (by omega)
 simp only [zzd,Addr.mk.injEq,and_true] at e
 obtain ⟨rfl,rfl⟩:=e
 have hg:=rowT_get l j q t ht hq
 have hv:q < t.vals.length:=by rw [Ta.vals_length];exact hq
 rw [zzJ hv] at hg ⊢
 exact hc _ _ hg
theorem ar_end {q left:Int} {s0 n sz:Nat} (hq:q=max (left - 1 - (s0:Int)) (-1)) (hsz:sz=n+1) (hle:s0≤n) (h:q < 0∨s0=n):q=max (left - (sz:Int)) (-1):=by omega
theorem ar_great {q left:Int} {s1 s0 d:Nat} (hq:q=max (left - 1 - (s0:Int)) (-1)) (hs:s1=s0+d) (h0:0≤q):max (q - (d:Int)) (-1)=max (left - 1 - (s1:Int)) (-1):=by omega
set_option maxRecDepth 100000 in
set_option maxHeartbeats 1000000 in
theorem great_any:∀ (t:Ta) (S:Nat→Prop) (w:World) (left:Int),RT w S t→(∀ b,S b→b < w.heap.size)→0≤left→left≤4194304 →
  Calls Try.prog 12 #[t.val,.int .i64 left] w fun e w'=>e=.returned (.int .i64 (max (left - size t.tr) (-1)))∧Below w.heap.size w w':=by
 intro t
 induction t using Ta.ind with
 | h t ih =>
  intro S w left h hS h0 h1
  cases t with
  | mk k r ra rc ast l sa sc mn mx z ix nm =>
   obtain ⟨_,hN,hL⟩:=h.parts
   have hsz:=Ta.tr_size k r ra rc ast l sa sc mn mx z ix nm
   have IH:=zzA ih
   have HN:=zzA hN
   have HL:=zzA hL
   have HS:=zzA hS
   have HSZ:=zzA hsz
   clear ih hL hS hsz h
   simp only [Ta.val,Ta.vals]
   have hb0:Below w.heap.size w (w.alloc (.cells #[.int .i64 k,.slice ra r.length rc,.int .i64 ast,.slice sa l.length sc,.int .i64 mn,.int .i64 mx,.bool z,.int .i64 ix,.string nm] 25)):=(zzb _ _).alloc (zzF _) _
   have hbl:=Blk.new w 25 [.int .i64 k,.slice ra r.length rc,.int .i64 ast,.slice sa l.length sc,.int .i64 mn,.int .i64 mx,.bool z,.int .i64 ix,.string nm]
   have hsc:=hN.1
   have hsc2:=hN.2.1
   have HB0:=zzA hb0
   have HBL:=zzA hbl
   clear hb0 hbl hN
   go_enter Try.func12,Try.ntmps12
   go_wp2_with fail
   generalize w.alloc (.cells #[.int .i64 k,.slice ra r.length rc,.int .i64 ast,.slice sa l.length sc,.int .i64 mn,.int .i64 mx,.bool z,.int .i64 ix,.string nm] 25)=w1 at *
   go_loopw [1,5] (fun lv iv wr=>∃ (i:Nat) (q:Int),i≤l.length∧iv=.int .i64 (i:Int)∧lv=.int .i64 q∧q=max (left - 1 - sizes (trs (l.take i))) (-1)∧Below w1.heap.size w1 wr) (fun _ iv _=>l.length - (intOf iv).toNat)
   case atStart=>exact ⟨0,left - 1,zzZ _,rfl,rfl,by simp [trs,sizes];omega,zzb _ _⟩
   case round =>
    obtain ⟨i,q,hi,rfl,rfl,hq,hb⟩:=hrel
    have HB:=zzA hb
    have HQ:=zzA hq
    have r3:wr.cell? ⟨w.heap.size,3,none⟩=some (.slice sa l.length sc):=(HBL.out.below hb HBL.out.lt).cell 3
    have r9:=(HBL.out.below hb HBL.out.lt).lt
    have hle:=sizes_take_le l i
    have HLE:=zzA hle
    clear hb
    by_cases hlt:i < l.length
    ·have hlt2:(i:Int) < (l.length:Int):=by omega
     by_cases hq0:0≤q
     ·have hqb:q≤4194304:=by omega
      clear hq hle
      obtain ⟨b,off,rfl,hSb,_⟩:=HN.out.2.2.2.2 (by omega)
      obtain ⟨u,hu⟩:∃ u,l[i]?=some u:=⟨_,zzJ hlt⟩
      have hum:u∈l:=zzL hu
      have hbb:=HS.out b hSb
      have hcell:∀ j,j < 9→wr.cell? ⟨b,off+i*9+j,none⟩=u.vals[j]?:=fun j hj=>by
       rw [Nat.add_assoc]
       rw [←HN.out.node hu hj]
       exact ((HB0.out.trans (HB.out.mono HB0.out.size)).cell (p:=⟨b,off+(i*9+j),none⟩) hbb)
      have hin:=(IH.out u hum S wr q ((HL.out u hum).below HS.out (HB0.out.trans (HB.out.mono HB0.out.size))) (fun b hb=>zzQ (HS.out b hb) (zzU HB0.out.size HB.out.size)) hq0 hqb)
      have hst:=sizes_take hu
      cases u with
      | mk k' r' ra' rc' a' l' sa' sc' n' m' z' i' s' =>
      simp only [Ta.vals] at hcell
      simp only [Ta.val,Ta.vals] at hin
      have c0:=hcell 0 (by omega)
      have c1:=hcell 1 (by omega)
      have c2:=hcell 2 (by omega)
      have c3:=hcell 3 (by omega)
      have c4:=hcell 4 (by omega)
      have c5:=hcell 5 (by omega)
      have c6:=hcell 6 (by omega)
      have c7:=hcell 7 (by omega)
      have c8:=hcell 8 (by omega)
      simp only [zzR,zzX,Nat.add_zero] at c0 c1 c2 c3 c4 c5 c6 c7 c8
      have HIN:=zzA hin
      have HST:=zzA hst
      clear hin hst hcell hu
      go_wp2_with (go_at_call 12;refine HIN.out.mono ?_;rintro e w2 ⟨rfl,hb2⟩;have HB2:=zzA hb2;clear hb2;simp only [])
      go_roundw
      case rel =>
       refine ⟨i+1,_,by omega,by go_num,rfl,?_,HB.out.trans (HB2.out.mono HB.out.size)⟩
       exact ar_great HQ.out HST.out hq0
      case measure=>simp [intOf];omega
     ·have hq1:¬(0≤q):=hq0
      clear hq
      go_wp2_with fail
      go_ret
      exact ⟨congrArg (fun z=>Ending.returned (Value.int .i64 z)) (ar_end HQ.out HSZ.out HLE.out (.inl (by omega))),HB0.out.trans (HB.out.mono HB0.out.size)⟩
    ·obtain rfl:i=l.length:=by omega
     have hlt2:¬((l.length:Int) < (l.length:Int)):=by omega
     clear hq
     go_wp2_with fail
     go_ret
     exact ⟨congrArg (fun z=>Ending.returned (Value.int .i64 z)) (ar_end HQ.out HSZ.out HLE.out (.inr (by rw [List.take_length]))),HB0.out.trans (HB.out.mono HB0.out.size)⟩
set_option maxHeartbeats 1000000 in
theorem deep_any (t:Ta) (S:Nat→Prop) (w:World) (h:RT w S t) (hS:∀ b,S b→b < w.heap.size) :
  Calls Try.prog 4 #[t.val] w fun e w'=>e=.returned (.bool (decide (4194304 < size t.tr)))∧Below w.heap.size w w':=by
 have hb0:Below w.heap.size w (w.alloc (.cells t.vals.toArray 25)):=(zzb _ _).alloc (zzF _) _
 have HB0:=zzA hb0
 have HG:=zzA (great_any t S (w.alloc (.cells t.vals.toArray 25)) 4194304 (h.below hS hb0) (fun b hb=>zzQ (hS b hb) hb0.size) (by decide) (by decide))
 have hd:decide (max (4194304 - (size t.tr:Int)) (-1) < 0)=decide (4194304 < size t.tr):=by rw [decide_eq_decide];omega
 have HD:=zzA hd
 clear h hS hd hb0
 cases t with
 | mk k r ra rc ast l sa sc mn mx z ix nm =>
 generalize size (Ta.mk k r ra rc ast l sa sc mn mx z ix nm).tr=q at *
 simp only [Ta.val,Ta.vals] at HG HB0 ⊢
 go_enter Try.func4,Try.ntmps4
 go_wp2_with (go_at_call 12;refine HG.out.mono ?_;rintro e w2 ⟨rfl,hb2⟩;have HB2:=zzA hb2;clear hb2;simp only [])
 go_ret
 exact ⟨ret_bool (by first | exact HD.out | simpa using HD.out),HB0.out.trans (HB2.out.mono HB0.out.size)⟩
end Go.Proofs.Ytkhkllpdhnmhkaa
namespace Go.Proofs.Ytkhkllpdhnmhkaa
open Go.RowKit Tr
mutual
def uz:Tr.Tr→Nat
 | .mk k _ _ l n m _ _ _=>if k≠6 then uzs l+1 else if m=-1 then max n.toNat 1*uzs l+1 else max 1 (n.toNat*uzs l+(m - n).toNat*(1+uzs l))
def uzs:List Tr.Tr→Nat
 | []=>0
 | t :: l=>uz t+uzs l
end
theorem uzs_append:∀ a b:List Tr.Tr,uzs (a++b)=uzs a+uzs b
 | [],b=>by simp [uzs]
 | t :: a,b=>by rw [List.cons_append,uzs,uzs,uzs_append a b];omega
theorem uzs_snoc {l:List Ta} {i:Nat} {u:Ta} (hu:l[i]?=some u):uzs (trs (l.take (i+1)))=uzs (trs (l.take i))+uz u.tr:=by
 rw [List.take_add_one,hu,trs_map,trs_map,zzT,uzs_append]
 simp [uzs]
end Go.Proofs.Ytkhkllpdhnmhkaa
namespace Go.Proofs.Ytkhkllpdhnmhkaa
open Go.RowKit Tr
theorem szUs_append:∀ a b:List Us,szUs (a++b)=szUs a+szUs b
 | [],b=>by simp [szUs]
 | t :: a,b=>by rw [List.cons_append,szUs,szUs,szUs_append a b];omega
theorem szUs_rep (x:Us):∀ n:Nat,szUs (List.replicate n x)=n*szU x
 | 0=>by simp [szUs]
 | n+1=>by rw [List.replicate_succ,szUs,szUs_rep x n,Nat.succ_mul];omega
theorem szU_opt (z:Bool) (x:Us):∀ n:Nat,szU (optU z x n)=(n+1)*szU x+2*n+1
 | 0=>by simp [optU,loopU,szU,szUs]
 | n+1=>by
  rw [optU,loopU,szU,szUs,szUs,catU,szU,szUs,szUs,szUs,szU_opt z x n,Nat.succ_mul (n+1)]
  omega
theorem szU_rep {x:Us} {n m:Int} {z:Bool} {X N D:Nat} (hX:szU x=X) (hle:X≤2*D*N) (hN:1≤N) (hn:0≤n) (hm:m=-1∨n≤m) :
  szU (repU x n m z)≤2*(D+1)*(if m=-1 then max n.toNat 1*N+1 else max 1 (n.toNat*N+(m - n).toNat*(1+N))):=by
 obtain ⟨a,rfl⟩:∃ a:Nat,n=(a:Int):=⟨n.toNat,by omega⟩
 unfold repU
 rw [Int.toNat_natCast]
 have e1:2*(D+1)=2*D+2:=by omega
 split
 ·split
  ·rename_i h0
   obtain rfl:a=0:=by omega
   rw [loopU,szU,szUs,szUs,hX,show max 0 1*N+1=N+1 from by simp,e1,Nat.add_mul,Nat.mul_add]
   omega
  ·rename_i h0
   have h1:1≤a:=by omega
   rw [catU,szU,szUs_append,szUs_rep,szUs,szUs,loopU,szU,szUs,szUs,hX,show ((a:Int) - 1).toNat=a - 1 from by omega,show max a 1=a from by omega,e1]
   have h2:(a - 1)*X+X=a*X:=by rw [←Nat.succ_mul];congr 1;omega
   have h3:a*X≤a*(2*D*N):=Nat.mul_le_mul_left _ hle
   have h4:a*(2*D*N)=2*D*(a*N):=by rw [Nat.mul_left_comm]
   rw [Nat.add_mul,Nat.mul_add]
   omega
 ·rename_i hm1
  obtain ⟨b,rfl⟩:∃ b:Nat,m=(b:Int):=⟨m.toNat,by omega⟩
  split
  ·rw [emptyU,szU,szUs]
   have:=Nat.le_mul_of_pos_right (2*(D+1)) (show 0 < max 1 (a*N+((b:Int) - (a:Int)).toNat*(1+N)) from by omega)
   omega
  ·rename_i h0
   obtain ⟨d,hd⟩:∃ d:Nat,d=((b:Int) - (a:Int)).toNat:=⟨_,rfl⟩
   rw [←hd]
   rw [catU,szU,szUs_append,szUs_rep,hX]
   have h3:a*X≤a*(2*D*N):=Nat.mul_le_mul_left _ hle
   have h4:a*(2*D*N)=2*D*(a*N):=by rw [Nat.mul_left_comm]
   split
   ·rename_i h1
    rw [szUs,szUs,szU_opt,hX,show ((b:Int) - (a:Int) - 1).toNat=d - 1 from by omega,show d - 1+1=d from by omega]
    have h5:d*X≤d*(2*D*N):=Nat.mul_le_mul_left _ hle
    have h6:d*(2*D*N)=2*D*(d*N):=by rw [Nat.mul_left_comm]
    have h7:d*(1+N)=d+d*N:=by rw [Nat.mul_add,Nat.mul_one]
    have h8:1≤d:=by omega
    rw [show max 1 (a*N+d*(1+N))=a*N+(d+d*N) from by omega,e1,Nat.add_mul,Nat.mul_add,Nat.mul_add]
    have h9:d≤2*D*d+d:=by omega
    omega
   ·rename_i h1
    have h8:d=0:=by omega
    have h9:1≤a:=by omega
    have h10:N≤a*N:=Nat.le_mul_of_pos_left N h9
    rw [h8,szUs,Nat.zero_mul,show max 1 (a*N+0)=a*N from by omega,e1,Nat.add_mul]
    omega
mutual
theorem uz_pos:∀ t:Tr.Tr,1≤uz t
 | .mk k r a l n m z i s=>by
  rw [uz]
  split
  ·omega
  ·split <;> omega
end
mutual
theorem sz_le:∀ (t:Tr.Tr) (D:Nat),allB t=true→deep t≤D→szU (unfS t)≤2*D*uz t
 | .mk k r a l n m z i s,D,h,hd=>by
  obtain ⟨hnb,hsub⟩:=(allB_iff _).1 h
  rw [deep] at hd
  obtain ⟨D',rfl⟩:∃ D',D=D'+1:=⟨D - 1,by omega⟩
  have hs:=szs_le l D' hsub (by omega)
  rw [unfS,uz]
  split
  ·rename_i hk
   rw [szU,show 2*(D'+1)=2*D'+2 from by omega,Nat.add_mul,Nat.mul_add]
   omega
  ·rename_i hk
   have hk6:k=6:=by omega
   subst hk6
   have hbd:l.length=1∧0≤n∧(m=-1∨n≤m):=by
    unfold nodeB nodeF at hnb
    simp only [reduceIte,Int.reduceEq,zzc,Bool.or_eq_true,decide_eq_true_eq,beq_iff_eq] at hnb
    exact ⟨hnb.2.1,hnb.2.2.1,hnb.2.2.2.2.imp id (·.1)⟩
   obtain ⟨hl,hn0,hmx⟩:=hbd
   obtain ⟨x,rfl⟩:=List.length_eq_one_iff.1 hl
   simp only [unfSs,szUs,uzs,List.headD_cons,Nat.add_zero] at hs ⊢
   exact szU_rep rfl hs (uz_pos x) hn0 hmx
theorem szs_le:∀ (l:List Tr.Tr) (D:Nat),(∀ u∈l,allB u=true)→deeps l≤D→szUs (unfSs l)≤2*D*uzs l
 | [],_,_,_=>by simp [unfSs,szUs,uzs]
 | t :: l,D,h,hd=>by
  rw [deeps] at hd
  have h1:=sz_le t D (h t zzH) (by omega)
  have h2:=szs_le l D (fun v hv=>h v (zzI _ hv)) (by omega)
  rw [unfSs,szUs,uzs,Nat.mul_add]
  omega
end
end Go.Proofs.Ytkhkllpdhnmhkaa
namespace Go.Proofs.Ytkhkllpdhnmhkaa
open Tr
def repR (x:Us) (n m:Int) (z:Bool):Us :=
 if m=-1 then (if n=0 then loopU (-2) z x else rowU (List.replicate (n - 1).toNat x++[loopU (-3) z x]))
 else rowU (List.replicate n.toNat x++(if n < m then [optU z x (m - n - 1).toNat] else []))
mutual
def unfR:Tr.Tr→Us
 | .mk k r a l n m z i _=>if k≠6 then .mk k r a i false (unfRs l) else repR ((unfRs l).headD emptyU) n m z
def unfRs:List Tr.Tr→List Us
 | []=>[]
 | t :: l=>unfR t :: unfRs l
end
theorem unfRs_map:∀ l:List Tr.Tr,unfRs l=l.map unfR
 | []=>rfl
 | t :: l=>by rw [unfRs,unfRs_map l];rfl
theorem nf_row (l:List Us):nfU (rowU l)=nfU (catU l):=by
 match l with
 | []=>rfl
 | [x] =>
  show nfU x=nfU (catU [x])
  rw [catU,nfU,nfUs,nfUs]
  unfold nfK
  rw [if_neg (by decide),if_pos rfl,List.flatMap_cons,List.flatMap_nil,zzY,row_put (nf_form x)]
 | x :: y :: l=>rfl
theorem nfr_cat {a b:List Us} (h:a.map nfU=b.map nfU):nfU (catU a)=nfU (catU b):=by
 rw [catU,catU,nfU,nfU,nfUs_map,nfUs_map,h]
theorem nfr_loop {k:Int} {z:Bool} {x y:Us} (h:nfU x=nfU y):nfU (loopU k z x)=nfU (loopU k z y):=by
 rw [loopU,loopU,nfU,nfU,nfUs,nfUs,nfUs,nfUs,h]
theorem nfr_opt {z:Bool} {x y:Us} (h:nfU x=nfU y):∀ n,nfU (optU z x n)=nfU (optU z y n)
 | 0=>nfr_loop h
 | n+1=>nfr_loop (nfr_cat (by simp only [zzS,List.map_nil];rw [h,nfr_opt h n]))
theorem nf_repR {x y:Us} {n m:Int} {z:Bool} (h:nfU x=nfU y):nfU (repR x n m z)=nfU (repU y n m z):=by
 unfold repR repU
 by_cases h1:m=-1
 ·rw [if_pos h1,if_pos h1]
  by_cases h2:n=0
  ·rw [if_pos h2,if_pos h2];exact nfr_loop h
  ·rw [if_neg h2,if_neg h2,nf_row]
   refine nfr_cat ?_
   rw [zzT,zzT,List.map_replicate,List.map_replicate,h,zzS,zzS,nfr_loop h]
 ·rw [if_neg h1,if_neg h1,nf_row]
  by_cases h2:n.toNat=0∧¬n < m
  ·rw [if_pos h2,if_neg h2.2,h2.1];rfl
  ·rw [if_neg h2]
   refine nfr_cat ?_
   rw [zzT,zzT,List.map_replicate,List.map_replicate,h]
   by_cases h3:n < m
   ·rw [if_pos h3,if_pos h3,zzS,zzS,nfr_opt h]
   ·rw [if_neg h3,if_neg h3]
mutual
theorem nf_unfR:∀ t:Tr.Tr,nfU (unfR t)=nfU (unfS t)
 | .mk k r a l n m z i s=>by
  have hl:=nf_unfRs l
  rw [unfR,unfS]
  by_cases hk:k≠6
  ·rw [if_pos hk,if_pos hk,nfU,nfU,hl]
  ·rw [if_neg hk,if_neg hk]
   refine nf_repR ?_
   cases l with
   | nil=>rfl
   | cons x l=>rw [unfRs,unfSs,nfUs,nfUs] at hl;rw [unfRs,unfSs];exact (List.cons.inj hl).1
theorem nf_unfRs:∀ l:List Tr.Tr,nfUs (unfRs l)=nfUs (unfSs l)
 | []=>rfl
 | t :: l=>by rw [unfRs,unfSs,nfUs,nfUs,nf_unfR t,nf_unfRs l]
end
theorem row_ok {g:Int} {l:List Us} (h:∀ u∈l,okS g u):okS g (rowU l):=by
 match l,h with
 | [],_=>exact empty_ok
 | [x],h=>exact h x zzH
 | x :: y :: l,h=>exact cat_ok h
theorem repR_ok {g:Int} {x:Us} {n m:Int} {z:Bool} (h:okS g x):okS g (repR x n m z):=by
 unfold repR
 split
 ·split
  ·exact loop_ok (.inr (.inl rfl)) h
  ·refine row_ok fun u hu=>?_
   rcases zzM.1 hu with hu | hu
   ·rw [(List.mem_replicate.1 hu).2];exact h
   ·rw [zzE] at hu
    rw [hu];exact loop_ok (.inr (.inr rfl)) h
 ·refine row_ok fun u hu=>?_
  rcases zzM.1 hu with hu | hu
  ·rw [(List.mem_replicate.1 hu).2];exact h
  ·split at hu
   ·rw [zzE] at hu
    rw [hu];exact opt_ok h _
   ·cases hu
mutual
theorem unfR_ok:∀ t:Tr.Tr,allB t=true→okS (greatest t) (unfR t)
 | .mk k r a l n m z i s,h=>by
  obtain ⟨hnb,hsub⟩:=(allB_iff _).1 h
  have hs:=unfRs_ok l hsub
  have hge:=greatests_ge l i
  have hall:∀ u∈unfRs l,okS (greatests l i) u:=fun u hu=>by
   rw [unfRs_map] at hu
   obtain ⟨v,hv,rfl⟩:=List.mem_map.1 hu
   exact okS_mono (hge.2 v hv) _ (hs v hv)
  rw [unfR,greatest]
  split
  ·rename_i hk
   refine ⟨?_,(okSs_iff _).2 hall⟩
   rw [show (unfRs l).length=l.length from by rw [unfRs_map,zzP]]
   exact node_ok hnb hk hge.1
  ·refine repR_ok ?_
   cases hx:unfRs l with
   | nil=>exact empty_ok
   | cons x l'=>exact hall x (by rw [hx];simp)
theorem unfRs_ok:∀ l:List Tr.Tr,(∀ u∈l,allB u=true)→∀ u∈l,okS (greatest u) (unfR u)
 | [],_=>fun u hu=>by cases hu
 | t :: l,h=>fun u hu=>by
  rcases zzN.1 hu with e | hu
  ·rw [e];exact unfR_ok t (h t zzH)
  ·exact unfRs_ok l (fun v hv=>h v (zzI _ hv)) u hu
end
theorem wu_empty:WU emptyU:=by unfold emptyU;rw [WU,WUs_iff];simp
theorem wu_row {l:List Us} (h:∀ x∈l,WU x):WU (rowU l):=by
 match l,h with
 | [],_=>exact wu_empty
 | [x],h=>exact h x zzH
 | x :: y :: l,h=>exact wu_cat h (by simp)
theorem wu_repR {x:Us} {n m:Int} {z:Bool} (hx:WU x):WU (repR x n m z):=by
 unfold repR
 split
 ·split
  ·exact wu_loop (by decide) (by decide) hx
  ·refine wu_row fun u hu=>?_
   rcases zzM.1 hu with hu | hu
   ·rw [(List.mem_replicate.1 hu).2];exact hx
   ·rw [zzE] at hu
    rw [hu];exact wu_loop (by decide) (by decide) hx
 ·refine wu_row fun u hu=>?_
  rcases zzM.1 hu with hu | hu
  ·rw [(List.mem_replicate.1 hu).2];exact hx
  ·split at hu
   ·rw [zzE] at hu
    rw [hu];exact wu_opt hx _
   ·cases hu
theorem wuR:∀ t:Tr.Tr,Tr.allB t=true→WU (unfR t):=by
 intro t
 induction t using Tr.Tr.ind with
 | h t ih =>
  intro hall
  obtain ⟨hnb,hsb⟩:=(Tr.allB_iff _).1 hall
  cases t with
  | mk k r a l n m z i s =>
   have ih':∀ x∈l,WU (unfR x):=fun x hx=>ih x hx (hsb x hx)
   unfold Tr.nodeB Tr.nodeF at hnb
   by_cases k6:k=6
   ·subst k6
    simp only [reduceIte,Int.reduceEq,zzc,Bool.or_eq_true,decide_eq_true_eq,beq_iff_eq] at hnb
    obtain ⟨x,rfl⟩:=List.length_eq_one_iff.1 hnb.2.1
    rw [unfR,if_neg (by decide),unfRs,unfRs]
    exact wu_repR (ih' x (by simp))
   ·rw [unfR,if_pos k6,WU,WUs_iff,unfRs_map]
    refine ⟨fun k4=>?_,fun k1=>?_,fun y hy=>?_⟩
    ·subst k4
     simp only [reduceIte,Int.reduceEq,zzc,decide_eq_true_eq] at hnb
     obtain ⟨h1,h2,-,-,-,h3,-⟩:=Tr.zeroB_eq hnb.1
     refine ⟨fun e=>?_,h1,h2,h3,rfl⟩
     have:=List.map_eq_nil_iff.1 e
     have h5:=hnb.2
     rw [this] at h5
     exact absurd h5 (by decide)
    ·subst k1
     simp only [reduceIte,zzc,beq_iff_eq] at hnb
     obtain ⟨h1,h2,-,-,-,h3,-⟩:=Tr.zeroB_eq hnb.1
     refine ⟨?_,h1,h2,h3,rfl⟩
     rw [List.length_eq_zero_iff.1 hnb.2];rfl
    ·obtain ⟨x,hx,rfl⟩:=List.mem_map.1 hy
     exact ih' x hx
theorem sz_row (l:List Us):szU (rowU l)≤szU (catU l):=by
 match l with
 | []=>exact zzF _
 | [x]=>show szU x≤szU (catU [x]);rw [catU,szU,szUs,szUs];omega
 | x :: y :: l=>exact zzF _
theorem sz_opt {z:Bool} {x y:Us} (h:szU x≤szU y) (n:Nat):szU (optU z x n)≤szU (optU z y n):=by
 rw [szU_opt,szU_opt]
 have:=Nat.mul_le_mul_left (n+1) h
 omega
theorem sz_loop {k:Int} {z:Bool} {x y:Us} (h:szU x≤szU y):szU (loopU k z x)≤szU (loopU k z y):=by
 rw [loopU,loopU,szU,szU,szUs,szUs,szUs,szUs];omega
theorem sz_catR {z:Bool} {x y:Us} (h:szU x≤szU y) {a b:Us} (hab:szU a≤szU b) (n:Nat):szU (catU (List.replicate n x++[a]))≤szU (catU (List.replicate n y++[b])):=by
 rw [catU,catU,szU,szU,szUs_append,szUs_append,szUs_rep,szUs_rep,szUs,szUs,szUs,szUs]
 have:=Nat.mul_le_mul_left n h
 omega
theorem sz_repR {x y:Us} {n m:Int} {z:Bool} (h:szU x≤szU y):szU (repR x n m z)≤szU (repU y n m z):=by
 unfold repR repU
 by_cases h1:m=-1
 ·rw [if_pos h1,if_pos h1]
  by_cases h2:n=0
  ·rw [if_pos h2,if_pos h2];exact sz_loop h
  ·rw [if_neg h2,if_neg h2]
   exact zzU (sz_row _) (sz_catR (z:=z) h (sz_loop h) _)
 ·rw [if_neg h1,if_neg h1]
  by_cases h2:n.toNat=0∧¬n < m
  ·rw [if_pos h2,if_neg h2.2,h2.1];exact zzF _
  ·rw [if_neg h2]
   refine zzU (sz_row _) ?_
   by_cases h3:n < m
   ·rw [if_pos h3,if_pos h3];exact sz_catR (z:=z) h (sz_opt h _) _
   ·rw [if_neg h3,if_neg h3,zzY,zzY,catU,catU,szU,szU,szUs_rep,szUs_rep]
    have:=Nat.mul_le_mul_left n.toNat h
    omega
mutual
theorem sz_unfR:∀ t:Tr.Tr,szU (unfR t)≤szU (unfS t)
 | .mk k r a l n m z i s=>by
  have hl:=sz_unfRs l
  rw [unfR,unfS]
  by_cases hk:k≠6
  ·rw [if_pos hk,if_pos hk,szU,szU];have:=hl.1;omega
  ·rw [if_neg hk,if_neg hk]
   exact sz_repR hl.2
theorem sz_unfRs:∀ l:List Tr.Tr,szUs (unfRs l)≤szUs (unfSs l)∧szU ((unfRs l).headD emptyU)≤szU ((unfSs l).headD emptyU)
 | []=>⟨zzF _,zzF _⟩
 | t :: l=>by
  have h1:=sz_unfR t
  have h2:=sz_unfRs l
  rw [unfRs,unfSs,szUs,szUs]
  exact ⟨by have:=h2.1;omega,h1⟩
end
end Go.Proofs.Ytkhkllpdhnmhkaa
namespace Go.Proofs.Ytkhkllpdhnmhkaa
open Mean
structure NdV where
 kind:Int
 ast:Int
 ix:Int
 ra:Option Addr
 rc:Nat
 rng:List (Int × Int)
 sa:Option Addr
 sc:Nat
 subs:List Nat
 lz:Bool
 up:Int
 nth:Int
def kindR (k:Int):Int:=if k=-1 then 103 else if k=-2 then 101 else if k=-3 then 102 else k
def NdV.put_ (v:NdV) (u n:Int):NdV:={ v with up:=u,nth:=n }
def upR (L:List NdV) (j n i:Nat):List NdV:=match L[j]? with | some v=>L.set j (v.put_ n i) | none=>L
def setUps:List NdV→Nat→List Nat→Nat→List NdV
 | L,_,[],_=>L
 | L,n,j :: l,i=>setUps (upR L j n i) n l (i+1)
def putL (L:List NdV) (x:NdV):List NdV:=setUps (L++[{ x with up:=-1 }]) L.length x.subs 0
theorem upR_len (L:List NdV) (j n i:Nat):(upR L j n i).length=L.length:=by unfold upR;split <;> simp
theorem setUps_len:∀ (l:List Nat) (L:List NdV) (n i:Nat),(setUps L n l i).length=L.length
 | [],_,_,_=>rfl
 | j :: l,L,n,i=>by rw [setUps,setUps_len l,upR_len]
theorem setUps_snoc:∀ (l:List Nat) (L:List NdV) (n j i:Nat),setUps L n (l++[j]) i=upR (setUps L n l i) j n (i+l.length)
 | [],L,n,j,i=>rfl
 | a :: l,L,n,j,i=>by rw [List.cons_append,setUps,setUps_snoc l,setUps,zzO,show i+1+l.length=i+(l.length+1) from by omega]
theorem upR_other {L:List NdV} {j n i q:Nat} (h:q≠j):(upR L j n i)[q]?=L[q]?:=by
 unfold upR;split
 ·rw [List.getElem?_set_ne h.symm]
 ·rfl
theorem upR_self {L:List NdV} {j n i:Nat} {v:NdV} (h:L[j]?=some v):(upR L j n i)[j]?=some (v.put_ n i):=by
 unfold upR;rw [h];exact List.getElem?_set_self (zzK.1 h).1
theorem setUps_other:∀ (l:List Nat) (L:List NdV) (n i q:Nat),q ∉ l→(setUps L n l i)[q]?=L[q]?
 | [],_,_,_,_,_=>rfl
 | j :: l,L,n,i,q,h=>by
  rw [setUps,setUps_other l _ _ _ _ fun e=>h (zzI _ e),upR_other fun e=>h (by rw [e];exact zzH)]
theorem setUps_some:∀ (l:List Nat) (L:List NdV) (n i q:Nat) (v:NdV),L[q]?=some v→∃ u k,(setUps L n l i)[q]?=some (v.put_ u k)
 | [],L,n,i,q,v,h=>⟨v.up,v.nth,h⟩
 | j :: l,L,n,i,q,v,h=>by
  rw [setUps]
  by_cases e:q=j
  ·subst e
   obtain ⟨u,k,g⟩:=setUps_some l (upR L q n i) n (i+1) q _ (upR_self h)
   exact ⟨u,k,g⟩
  ·exact setUps_some l (upR L j n i) n (i+1) q v ((upR_other e).trans h)
theorem setUps_at:∀ (l:List Nat) (L:List NdV) (n i k q:Nat) (v:NdV),l.Nodup→l[k]?=some q→L[q]?=some v→(setUps L n l i)[q]?=some (v.put_ n (i+k:Nat))
 | [],_,_,_,_,_,_,_,h,_=>by simp at h
 | j :: l,L,n,i,0,q,v,hn,h,hv=>by
  simp only [zzR,zzd] at h
  subst h
  rw [List.nodup_cons] at hn
  rw [setUps,setUps_other l _ _ _ _ hn.1,upR_self hv];rfl
 | j :: l,L,n,i,k+1,q,v,hn,h,hv=>by
  rw [List.nodup_cons] at hn
  have hq:l[k]?=some q:=by simpa using h
  have hne:q≠j:=fun e=>hn.1 (by rw [←e];exact zzL hq)
  rw [setUps,setUps_at l (upR L j n i) n (i+1) k q v hn.2 hq ((upR_other hne).trans hv),show i+1+k=i+(k+1) from by omega]
structure RepN (L:List NdV) (m:Un):Prop where
 node:∃ nd:NdV,L[m.ad]?=some nd∧nd.kind=kindR m.kind∧nd.ast=m.ast∧nd.ix=m.ix∧nd.rng=m.rng∧nd.subs=m.subs.map Un.ad∧nd.lz=m.lz
 kids:∀ (i:Nat) (s:Un),m.subs[i]?=some s→s.ad < m.ad∧∃ nd:NdV,L[s.ad]?=some nd∧nd.up=(m.ad:Int)∧nd.nth=(i:Int)
structure BuiltL (L0 L:List NdV) (us:List Un):Prop where
 len:L.length=L0.length+(allU us).length
 old:∀ j,j < L0.length→L[j]?=L0[j]?
 rep:∀ m∈allU us,RepN L m
 root:∀ s∈us,∃ nd:NdV,L[s.ad]?=some nd∧nd.up=-1
 ads:∀ m∈allU us,L0.length≤m.ad∧m.ad < L.length
 nd:((allU us).map Un.ad).Nodup
theorem RepN.old {L L':List NdV} {m:Un} (h:RepN L m) (ho:∀ j,j < L.length→L'[j]?=L[j]?):RepN L' m:=by
 obtain ⟨⟨nd,h1,h2⟩,hk⟩:=h
 refine ⟨⟨nd,(ho _ (zzK.1 h1).1).trans h1,h2⟩,fun i s hs=>?_⟩
 obtain ⟨g1,nd',g2,g3⟩:=hk i s hs
 exact ⟨g1,nd',(ho _ (zzK.1 g2).1).trans g2,g3⟩
theorem BuiltL.nil (L:List NdV):BuiltL L L []:=⟨by simp [allU],fun _ _=>rfl,by simp [allU],by simp,by simp [allU],by simp [allU]⟩
theorem allU_one (u:Un):allU [u]=u.all:=by rw [allU,allU,zzY]
theorem BuiltL.snoc {L0 L L':List NdV} {us:List Un} {u:Un} (h:BuiltL L0 L us) (g:BuiltL L L' [u]):BuiltL L0 L' (us++[u]):=by
 have hg:=g.len
 have hh:=h.len
 refine ⟨by rw [allU_app,zzG];omega,fun j hj=>(g.old j (by omega)).trans (h.old j hj),fun m hm=>?_,fun s hs=>?_,fun m hm=>?_,?_⟩
 ·rw [allU_app] at hm
  rcases zzM.1 hm with hm | hm
  ·exact (h.rep m hm).old g.old
  ·exact g.rep m hm
 ·rcases zzM.1 hs with hs | hs
  ·obtain ⟨nd,h1,h2⟩:=h.root s hs
   exact ⟨nd,(g.old _ (zzK.1 h1).1).trans h1,h2⟩
  ·exact g.root s hs
 ·rw [allU_app] at hm
  rcases zzM.1 hm with hm | hm
  ·have:=h.ads m hm;omega
  ·have:=g.ads m hm;omega
 ·rw [allU_app,zzT]
  refine List.nodup_append.2 ⟨h.nd,g.nd,fun a ha b hb e=>?_⟩
  obtain ⟨m,hm,rfl⟩:=List.mem_map.1 ha
  obtain ⟨k,hk,rfl⟩:=List.mem_map.1 hb
  have:=(h.ads m hm).2
  have:=(g.ads k hk).1
  omega
theorem roots_nodup {us:List Un} (h:((allU us).map Un.ad).Nodup):(us.map Un.ad).Nodup:=by
 induction us with
 | nil=>simp
 | cons u us ih =>
  rw [allU,zzT] at h
  obtain ⟨h1,h2,h3⟩:=List.nodup_append.1 h
  rw [zzS,List.nodup_cons]
  refine ⟨fun hm=>?_,ih h2⟩
  obtain ⟨s,hs,e⟩:=List.mem_map.1 hm
  exact h3 u.ad (List.mem_map_of_mem (self_all u)) s.ad (List.mem_map_of_mem (sub_allU hs)) e.symm
theorem BuiltL.put {L0 L:List NdV} {us:List Un} {x:NdV} {k:Int} (h:BuiltL L0 L us) (hs:x.subs=us.map Un.ad) (hk:x.kind=kindR k) :
  BuiltL L0 (putL L x) [.mk L.length k x.rng x.ast x.ix x.lz us]:=by
 have hh:=h.len
 have hne:L.length ∉ x.subs:=fun hm=>by
  rw [hs] at hm
  obtain ⟨s,hs,e⟩:=List.mem_map.1 hm
  have:=(h.ads s (sub_allU hs)).2
  omega
 have hnew:(putL L x)[L.length]?=some { x with up:=-1 }:=by
  unfold putL
  rw [setUps_other _ _ _ _ _ hne,List.getElem?_append_right (zzF _),Nat.sub_self];rfl
 have hnd:=roots_nodup h.nd
 have hin:∀ q,q < L.length→q ∉ us.map Un.ad→(putL L x)[q]?=L[q]?:=fun q hq hm=>by
  unfold putL
  rw [setUps_other _ _ _ _ _ (by rw [hs];exact hm),List.getElem?_append_left hq]
 refine ⟨?_,fun j hj=>?_,fun m hm=>?_,fun s hs'=>?_,fun m hm=>?_,?_⟩
 ·unfold putL
  rw [setUps_len,zzG,List.length_singleton,allU_one,Un.all,zzO];omega
 ·rw [hin j (by omega) fun hm=>?_,h.old j hj]
  obtain ⟨s,hs,e⟩:=List.mem_map.1 hm
  have:=(h.ads s (sub_allU hs)).1
  omega
 ·rw [allU_one,Un.all] at hm
  rcases zzN.1 hm with rfl | hm
  ·refine ⟨⟨_,hnew,hk,rfl,rfl,rfl,hs,rfl⟩,fun i s hi=>?_⟩
   have hsu:s∈us:=zzL hi
   obtain ⟨nd,h1,h2⟩:=h.root s hsu
   have hl:=(zzK.1 h1).1
   refine ⟨hl,nd.put_ L.length (0+i:Nat),?_,?_⟩
   ·unfold putL
    exact setUps_at _ _ _ _ _ _ _ (by rw [hs];exact hnd) (by rw [hs,zza,show us[i]?=some s from hi];rfl) (by rw [List.getElem?_append_left hl];exact h1)
   ·exact ⟨rfl,by simp [NdV.put_]⟩
  ·obtain ⟨⟨nd,h1,h2⟩,hkk⟩:=h.rep m hm
   obtain ⟨u,q,h3⟩:=setUps_some x.subs (L++[{ x with up:=-1 }]) L.length 0 m.ad nd (by rw [List.getElem?_append_left (zzK.1 h1).1];exact h1)
   refine ⟨⟨_,h3,h2⟩,fun i s hi=>?_⟩
   obtain ⟨g1,nd',g2,g3,g4⟩:=hkk i s hi
   refine ⟨g1,nd',?_,g3,g4⟩
   rw [hin s.ad (zzK.1 g2).1 fun hm'=>?_]
   ·exact g2
   ·obtain ⟨r,hr,e⟩:=List.mem_map.1 hm'
    obtain ⟨nr,r1,r2⟩:=h.root r hr
    rw [e,g2,zzd] at r1
    rw [←r1,g3] at r2
    omega
 ·rw [zzE] at hs'
  subst hs'
  exact ⟨_,hnew,rfl⟩
 ·rw [allU_one,Un.all] at hm
  have hl:(putL L x).length=L.length+1:=by unfold putL;rw [setUps_len,zzG,List.length_singleton]
  rcases zzN.1 hm with rfl | hm
  ·exact ⟨by show L0.length≤L.length;omega,by show L.length < _;omega⟩
  ·have:=h.ads m hm;omega
 ·rw [allU_one,Un.all,zzS,List.nodup_cons]
  refine ⟨fun hm=>?_,h.nd⟩
  obtain ⟨m,hm,e⟩:=List.mem_map.1 hm
  have:=(h.ads m hm).2
  have e:m.ad=L.length:=e
  omega
def kidAt (p:Un) (i:Nat) (K:Kt):Kt:=if p.kind=4 then .row (p.subs.drop (i+1)) K else kidK p K
theorem pos_up:∀ (u:Un) (K0:Kt) (n:Un) (K:Kt),(n,K)∈posU u K0→(n=u∧K=K0)∨∃ p Kp i,(p,Kp)∈posU u K0∧p.subs[i]?=some n∧K=kidAt p i Kp:=by
 intro u
 induction u using Un.ind with
 | h u ih =>
  intro K0 n K hn
  have hn0:=hn
  rw [posU_eq] at hn
  rcases zzN.1 hn with e | hn
  ·simp only [Prod.mk.injEq] at e
   exact .inl e
  right
  have hself:=self_pos u K0
  unfold kids at hn
  split at hn
  ·rename_i h4
   obtain ⟨a,s,b,hs,hm⟩:=mem_posR hn
   have hsu:(s,Kt.row b K0)∈posU u K0:=by rw [posU_eq];exact zzI _ (by unfold kids;rw [if_pos h4];exact posR_sub hs _ (self_pos _ _))
   rcases ih s (by rw [hs];simp) _ n K hm with ⟨rfl,rfl⟩ | ⟨p,Kp,i,h1,h2,h3⟩
   ·refine ⟨u,K0,a.length,hself,by rw [hs];simp,?_⟩
    unfold kidAt;rw [if_pos h4,hs];simp
   ·exact ⟨p,Kp,i,pos_trans u K0 s _ hsu _ h1,h2,h3⟩
  ·rename_i h4
   obtain ⟨s,hs,hm⟩:=mem_posA hn
   have hsu:(s,kidK u K0)∈posU u K0:=by rw [posU_eq];exact zzI _ (by unfold kids;rw [if_neg h4];exact posA_sub hs _ (self_pos _ _))
   rcases ih s hs _ n K hm with ⟨rfl,rfl⟩ | ⟨p,Kp,i,h1,h2,h3⟩
   ·obtain ⟨i,hi,e⟩:=List.getElem_of_mem hs
    refine ⟨u,K0,i,hself,by rw [zzJ hi,e],?_⟩
    unfold kidAt;rw [if_neg h4]
   ·exact ⟨p,Kp,i,pos_trans u K0 s _ hsu _ h1,h2,h3⟩
theorem inT_at {root n:Un} {K:Kt} (h:InT root n K) {i:Nat} {s:Un} (hs:n.subs[i]?=some s):InT root s (kidAt n i K):=by
 unfold kidAt
 split
 ·rename_i h4
  obtain ⟨hi,e⟩:=zzK.1 hs
  refine inT_row h h4 (a:=n.subs.take i) ?_
  rw [←e,←List.drop_eq_getElem_cons hi,List.take_append_drop]
 ·rename_i h4
  exact inT_sub h h4 (zzL hs)
theorem unfR_out {u v:Un} {t:Tr.Tr} {tx:List Int} {b:Nat} {nt:List Int} (hall:Tr.allB t=true) (hb:b≤tx.length) (hsu:shU u=unfR t) (hsv:shU v=unfS t) (hu:(u.all.map Un.ad).Nodup) (hv:(v.all.map Un.ad).Nodup) {a c:St}
  (ha:One tx b st0 (.beg u b nt .top) a) (hc:One tx b st0 (.beg v b nt .top) c):a.out=c.out :=
 flat_out hb hu hv (uw_sh u (by rw [hsu];exact wuR t hall)) (uw_of hsv hall) (by rw [hsu,hsv];exact nf_unfR t) ha hc
end Go.Proofs.Ytkhkllpdhnmhkaa
namespace Go.Proofs.Ytkhkllpdhnmhkaa
open Go.RowKit Tr
theorem ar_w1 {q:Int} (h1:1≤q) (h2:q≤1099511627776):1≤wrap64 q∧wrap64 q≤1099511627776:=by
 have e:wrap64 q=q:=by unfold wrap64;omega
 rw [e];exact ⟨h1,h2⟩
theorem ar_w {x q:Int} (hx:1≤x) (hq:1≤q) (h:x≤1099511627776 / q):1≤wrap64 (x*q)∧wrap64 (x*q)≤1099511627776:=by
 have h1:x*q≤1099511627776:=Int.mul_le_of_le_ediv (by omega) h
 have h2:1≤x*q:=by
  have:=Int.mul_le_mul hx hq (by decide) (by omega)
  simpa using this
 exact ar_w1 h2 h1
set_option maxRecDepth 100000 in
set_option maxHeartbeats 1000000 in
theorem weight_any:∀ (t:Ta) (S:Nat→Prop) (w:World),RT w S t→(∀ b,S b→b < w.heap.size) →
  Calls Try.prog 13 #[t.val] w fun e w'=>(∃ q:Int,1≤q∧q≤1099511627776∧e=.returned (.int .i64 q))∧Below w.heap.size w w':=by
 intro t
 induction t using Ta.ind with
 | h t ih =>
  intro S w h hS
  cases t with
  | mk k r ra rc ast l sa sc mn mx z ix nm =>
   obtain ⟨⟨hR,hrl,hll⟩,hN,hL⟩:=h.parts
   have IH:=zzA ih
   have HN:=zzA hN
   have HL:=zzA hL
   have HS:=zzA hS
   clear ih hL hS h
   simp only [Ta.val,Ta.vals]
   have hb0:Below w.heap.size w (w.alloc (.cells #[.int .i64 k,.slice ra r.length rc,.int .i64 ast,.slice sa l.length sc,.int .i64 mn,.int .i64 mx,.bool z,.int .i64 ix,.string nm] 25)):=(zzb _ _).alloc (zzF _) _
   have hbl:=Blk.new w 25 [.int .i64 k,.slice ra r.length rc,.int .i64 ast,.slice sa l.length sc,.int .i64 mn,.int .i64 mx,.bool z,.int .i64 ix,.string nm]
   have hsc:=hN.1
   have hsc2:=hN.2.1
   have hrc:=hR.1
   have hrc2:=hR.2.1
   have HB0:=zzA hb0
   have HBL:=zzA hbl
   clear hb0 hbl hN hR
   go_enter Try.func13,Try.ntmps13
   go_wp2_with fail
   generalize w.alloc (.cells #[.int .i64 k,.slice ra r.length rc,.int .i64 ast,.slice sa l.length sc,.int .i64 mn,.int .i64 mx,.bool z,.int .i64 ix,.string nm] 25)=w1 at *
   go_loopw [3,4] (fun nv iv wr=>∃ (i:Nat) (q:Int),i≤l.length∧iv=.int .i64 (i:Int)∧nv=.int .i64 q∧1≤q∧q≤1099511627776∧Below w1.heap.size w1 wr) (fun _ iv _=>l.length - (intOf iv).toNat)
   case atStart=>exact ⟨0,1+(r.length:Int),zzZ _,rfl,by go_num,by omega,by omega,zzb _ _⟩
   case round =>
    obtain ⟨i,q,hi,rfl,rfl,hq1,hq2,hb⟩:=hrel
    have HB:=zzA hb
    have r0:wr.cell? ⟨w.heap.size,0,none⟩=some (.int .i64 k):=(HBL.out.below hb HBL.out.lt).cell 0
    have r3:wr.cell? ⟨w.heap.size,3,none⟩=some (.slice sa l.length sc):=(HBL.out.below hb HBL.out.lt).cell 3
    have r4:wr.cell? ⟨w.heap.size,4,none⟩=some (.int .i64 mn):=(HBL.out.below hb HBL.out.lt).cell 4
    have r5:wr.cell? ⟨w.heap.size,5,none⟩=some (.int .i64 mx):=(HBL.out.below hb HBL.out.lt).cell 5
    have r9:=(HBL.out.below hb HBL.out.lt).lt
    clear hb
    by_cases hlt:i < l.length
    ·have hlt2:(i:Int) < (l.length:Int):=by omega
     obtain ⟨b,off,rfl,hSb,_⟩:=HN.out.2.2.2.2 (by omega)
     obtain ⟨u,hu⟩:∃ u,l[i]?=some u:=⟨_,zzJ hlt⟩
     have hum:u∈l:=zzL hu
     have hbb:=HS.out b hSb
     have hcell:∀ j,j < 9→wr.cell? ⟨b,off+i*9+j,none⟩=u.vals[j]?:=fun j hj=>by
      rw [Nat.add_assoc]
      rw [←HN.out.node hu hj]
      exact ((HB0.out.trans (HB.out.mono HB0.out.size)).cell (p:=⟨b,off+(i*9+j),none⟩) hbb)
     have hin:=(IH.out u hum S wr ((HL.out u hum).below HS.out (HB0.out.trans (HB.out.mono HB0.out.size))) (fun b hb=>zzQ (HS.out b hb) (zzU HB0.out.size HB.out.size)))
     cases u with
     | mk k' r' ra' rc' a' l' sa' sc' n' m' z' i' s' =>
     simp only [Ta.vals] at hcell
     simp only [Ta.val,Ta.vals] at hin
     have c0:=hcell 0 (by omega)
     have c1:=hcell 1 (by omega)
     have c2:=hcell 2 (by omega)
     have c3:=hcell 3 (by omega)
     have c4:=hcell 4 (by omega)
     have c5:=hcell 5 (by omega)
     have c6:=hcell 6 (by omega)
     have c7:=hcell 7 (by omega)
     have c8:=hcell 8 (by omega)
     simp only [zzR,zzX,Nat.add_zero] at c0 c1 c2 c3 c4 c5 c6 c7 c8
     have HIN:=zzA hin
     clear hin hcell hu
     go_wp2_with (go_at_call 13;refine HIN.out.mono ?_;rintro e w2 ⟨⟨q2,hp1,hp2,rfl⟩,hb2⟩;have HB2:=zzA hb2;clear hb2;simp only [])
     go_roundw
     case rel =>
      exact ⟨i+1,min 1099511627776 (q+q2),by omega,by go_num,by go_num,by omega,by omega,HB.out.trans (HB2.out.mono HB.out.size)⟩
     case measure=>simp [intOf];omega
    ·obtain rfl:i=l.length:=by omega
     have hlt2:¬((l.length:Int) < (l.length:Int)):=by omega
     have hq0:¬(q=0):=by omega
     have hbb:=HB0.out.trans (HB.out.mono HB0.out.size)
     have HBB:=zzA hbb
     clear hbb
     by_cases hk6:k=6
     all_goals
      go_wp2_with fail
     all_goals
      go_ret
      refine ⟨?_,HBB.out⟩
      first
       | exact ⟨_,by decide,by decide,rfl⟩
       | exact ⟨q,hq1,hq2,rfl⟩
       | exact ⟨_,(ar_w (x:=mn) (by omega) hq1 (by omega)).1,(ar_w (x:=mn) (by omega) hq1 (by omega)).2,rfl⟩
       | exact ⟨_,(ar_w (x:=mx) (by omega) hq1 (by omega)).1,(ar_w (x:=mx) (by omega) hq1 (by omega)).2,rfl⟩
       | exact ⟨_,(ar_w1 hq1 hq2).1,(ar_w1 hq1 hq2).2,rfl⟩
set_option maxHeartbeats 1000000 in
theorem heavy_any (t:Ta) (S:Nat→Prop) (w:World) (h:RT w S t) (hS:∀ b,S b→b < w.heap.size) :
  Calls Try.prog 5 #[t.val] w fun e w'=>(∃ b:Bool,e=.returned (.bool b))∧Below w.heap.size w w':=by
 have hb0:Below w.heap.size w (w.alloc (.cells t.vals.toArray 25)):=(zzb _ _).alloc (zzF _) _
 have HB0:=zzA hb0
 have HG:=zzA (weight_any t S (w.alloc (.cells t.vals.toArray 25)) (h.below hS hb0) (fun b hb=>zzQ (hS b hb) hb0.size))
 clear h hS hb0
 cases t with
 | mk k r ra rc ast l sa sc mn mx z ix nm =>
 simp only [Ta.val,Ta.vals] at HG HB0 ⊢
 go_enter Try.func5,Try.ntmps5
 go_wp2_with (go_at_call 13;refine HG.out.mono ?_;rintro e w2 ⟨⟨q,hq1,hq2,rfl⟩,hb2⟩;have HB2:=zzA hb2;clear hb2;simp only [])
 go_ret
 exact ⟨⟨_,rfl⟩,HB0.out.trans (HB2.out.mono HB0.out.size)⟩
end Go.Proofs.Ytkhkllpdhnmhkaa
namespace Go.Proofs.Ytkhkllpdhnmhkaa
open Go.RowKit Tr
theorem rgrt_snoc:∀ (a:List Tr.Tr) (t:Tr.Tr) (g:Int),greatests (a++[t]) g=max (greatests a g) (greatest t)
 | [],t,g=>by rw [List.nil_append,greatests,greatests,greatests]
 | x :: a,t,g=>by rw [List.cons_append,greatests,rgrt_snoc a,greatests]
set_option maxRecDepth 100000 in
set_option maxHeartbeats 2000000 in
theorem rgrt_any:∀ (t:Ta) (S:Nat→Prop) (w:World),RT w S t→(∀ b,S b→b < w.heap.size) →
  Calls Try.prog 26 #[t.val] w fun e w'=>e=.returned (.int .i64 (greatest t.tr))∧Below w.heap.size w w':=by
 intro t
 induction t using Ta.ind with
 | h t ih =>
  intro S w h hS
  cases t with
  | mk k r ra rc ast l sa sc mn mx z ix nm =>
   obtain ⟨⟨-,-,hll,-⟩,hN,hL⟩:=h.parts
   have IH:=zzA ih
   have HN:=zzA hN
   have HL:=zzA hL
   have HS:=zzA hS
   clear ih hL hS h
   simp only [Ta.val,Ta.vals,Ta.tr,greatest]
   have hb0:Below w.heap.size w (w.alloc (.cells #[.int .i64 k,.slice ra r.length rc,.int .i64 ast,.slice sa l.length sc,.int .i64 mn,.int .i64 mx,.bool z,.int .i64 ix,.string nm] 25)):=(zzb _ _).alloc (zzF _) _
   have hbl:=Blk.new w 25 [.int .i64 k,.slice ra r.length rc,.int .i64 ast,.slice sa l.length sc,.int .i64 mn,.int .i64 mx,.bool z,.int .i64 ix,.string nm]
   have hsc:=hN.1
   have hsc2:=hN.2.1
   have HB0:=zzA hb0
   have HBL:=zzA hbl
   clear hb0 hbl hN
   have k7:(w.alloc (.cells #[.int .i64 k,.slice ra r.length rc,.int .i64 ast,.slice sa l.length sc,.int .i64 mn,.int .i64 mx,.bool z,.int .i64 ix,.string nm] 25)).cell? ⟨w.heap.size,7,none⟩=some (.int .i64 ix):=HBL.out.cell 7
   go_enter Try.func26,Try.ntmps26
   go_wp2_with fail
   generalize (w.alloc (.cells #[.int .i64 k,.slice ra r.length rc,.int .i64 ast,.slice sa l.length sc,.int .i64 mn,.int .i64 mx,.bool z,.int .i64 ix,.string nm] 25))=w1 at *
   go_loopw [3,4] (fun lv iv wr=>∃ (i:Nat),i≤l.length∧iv=.int .i64 (i:Int)∧lv=.int .i64 (greatests (trs (l.take i)) ix)∧Below w1.heap.size w1 wr) (fun _ iv _=>l.length - (intOf iv).toNat)
   case atStart=>exact ⟨0,zzZ _,rfl,by rw [List.take_zero,trs,greatests],zzb _ _⟩
   case round =>
    obtain ⟨i,hi,rfl,rfl,hb⟩:=hrel
    have HB:=zzA hb
    have HBW:=zzA (HBL.out.below hb HBL.out.lt)
    have r3:wr.cell? ⟨w.heap.size,3,none⟩=some (.slice sa l.length sc):=HBW.out.cell 3
    clear hb
    by_cases hlt:i < l.length
    ·have hlt2:(i:Int) < (l.length:Int):=by omega
     obtain ⟨b,off,rfl,hSb,_⟩:=HN.out.2.2.2.2 (by omega)
     obtain ⟨u,hu⟩:∃ u,l[i]?=some u:=⟨_,zzJ hlt⟩
     have hum:u∈l:=zzL hu
     have hbb:=HS.out b hSb
     have hbw:=HB0.out.trans (HB.out.mono HB0.out.size)
     have hcell:∀ j,j < 9→wr.cell? ⟨b,off+i*9+j,none⟩=u.vals[j]?:=fun j hj=>by
      rw [Nat.add_assoc,←HN.out.node hu hj]
      exact hbw.cell (p:=⟨b,off+(i*9+j),none⟩) hbb
     have hin:=IH.out u hum S wr ((HL.out u hum).below HS.out hbw) (fun b hb=>zzQ (HS.out b hb) hbw.size)
     have HST:=zzA (show greatests (trs (l.take (i+1))) ix=max (greatests (trs (l.take i)) ix) (greatest u.tr) from by rw [List.take_add_one,hu,trs_map,trs_map,zzT];exact rgrt_snoc _ _ _)
     generalize greatest u.tr=gu at *
     generalize greatests (trs (l.take i)) ix=gq at *
     cases u with
     | mk k' r' ra' rc' a' l' sa' sc' n' m' z' i' s' =>
     simp only [Ta.vals] at hcell
     simp only [Ta.val,Ta.vals] at hin
     have c0:=hcell 0 (by omega)
     have c1':=hcell 1 (by omega)
     have c2':=hcell 2 (by omega)
     have c3:=hcell 3 (by omega)
     have c4:=hcell 4 (by omega)
     have c5:=hcell 5 (by omega)
     have c6:=hcell 6 (by omega)
     have c7:=hcell 7 (by omega)
     have c8:=hcell 8 (by omega)
     simp only [zzR,zzX,Nat.add_zero] at c0 c1' c2' c3 c4 c5 c6 c7 c8
     have HIN:=zzA hin
     clear hin hcell hu hbw hum
     go_wp2_with (go_at_call 26;refine HIN.out.mono ?_;rintro e w2 ⟨rfl,hb2⟩;have HB2:=zzA hb2;clear hb2;simp only [])
     go_roundw
     case rel =>
      exact ⟨i+1,by omega,by go_num,by rw [HST.out];exact congrArg (Value.int .i64) (by show (if gq < gu then gu else gq)=max gq gu;omega),HB.out.trans (HB2.out.mono HB.out.size)⟩
     case measure=>simp [intOf];omega
    ·obtain rfl:i=l.length:=by omega
     have hlt2:¬((l.length:Int) < (l.length:Int)):=by omega
     go_wp2_with fail
     go_ret
     exact ⟨rfl,HB0.out.trans (HB.out.mono HB0.out.size)⟩
end Go.Proofs.Ytkhkllpdhnmhkaa
