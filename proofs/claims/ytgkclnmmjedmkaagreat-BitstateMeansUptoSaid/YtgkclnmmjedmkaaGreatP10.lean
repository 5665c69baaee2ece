/- meaning's walker does what the plain one does. -/
import Derived.Handy
import Derived.Laws.ResultCell
import Derived.Laws.Bits64b
import Derived.WalkKit
import Derived.Test.YtgkclnmmjedmkaaGreatP08
import Derived.Test.YtgkclnmmjedmkaaGreatP09
namespace Go.Proofs.YtgkclnmmjedmkaaGreat
open Go.RowKit
section
variable {t:List Int} {at_:Nat}
theorem work_mono (s:Mean.St) (k:Mean.Task):s.calls≤(Mean.work t at_ s k).1.calls:=by
 cases k with
 | beg n pl nt K=>exact Nat.le_succ _
 | dcd n pl nt K=>exact Nat.le_succ _
 | go K pl nt =>
  cases K with
  | top=>simp only [Mean.work,Mean.ended];split <;> exact zzF _
  | row l K=>exact zzF _
  | grp i K=>exact zzF _
  | dec n K=>exact zzF _
mutual
theorem one_mono:∀ {s s':Mean.St} {k:Mean.Task},Mean.One t at_ s k s'→s.calls≤s'.calls
 | s,_,k,.mk h=>zzU (work_mono s k) (many_mono h)
theorem many_mono:∀ {s s':Mean.St} {l:List Mean.Task},Mean.Many t at_ s l s'→s.calls≤s'.calls
 | _,_,_,.nil=>zzF _
 | _,_,_,.cons h1 h2=>zzU (one_mono h1) (many_mono h2)
end
end
def ktLp:Mean.Kt→Prop
 | .top=>True
 | .row _ K=>ktLp K
 | .grp _ K=>ktLp K
 | .dec n K=>n.subs≠[]∧ktLp K
def taskLp:Mean.Task→Prop
 | .beg _ _ _ K=>ktLp K
 | .dcd n _ _ K=>n.subs≠[]∧ktLp K
 | .go K _ _=>ktLp K
theorem rowT_lp {l:List Mean.Un} {pl:Nat} {nt:List Int} {K:Mean.Kt} (h:ktLp K):taskLp (Mean.rowT l pl nt K):=by
 cases l with
 | nil=>exact h
 | cons s l=>exact (show ktLp (.row l K) from h)
theorem choose_lp {n:Mean.Un} {pl:Nat} {nt:List Int} {again K:Mean.Kt} (h1:ktLp again) (h2:ktLp K):∀ x∈Mean.choose n pl nt again K,taskLp x:=by
 unfold Mean.choose
 intro x hx
 cases hs:n.subs with
 | nil=>rw [hs] at hx;cases hx
 | cons s l =>
  rw [hs] at hx
  simp only [] at hx
  split at hx <;> (simp only [zzN,zyA,or_false] at hx;rcases hx with rfl | rfl)
  ·exact h2
  ·exact h1
  ·exact h1
  ·exact h2
theorem work_lp {t:List Int} {at_:Nat} {s:Mean.St} {k:Mean.Task} (hn:∀ n pl nt K,k=.beg n pl nt K→n.kind=-2∨n.kind=-3→n.subs≠[]) (h:taskLp k):∀ x∈(Mean.work t at_ s k).2,taskLp x:=by
 intro x hx
 cases k with
 | beg n pl nt K =>
  have hK:ktLp K:=h
  have hnn:=hn n pl nt K rfl
  simp only [Mean.work] at hx
  split at hx
  ·unfold Mean.first at hx
   split at hx
   ·simp only [zzE] at hx;subst hx;exact hK
   split at hx
   ·split at hx
    ·simp only [zzE] at hx;subst hx;exact hK
    ·cases hx
   split at hx
   ·split at hx
    ·simp only [zzE] at hx;subst hx;exact hK
    ·cases hx
   split at hx
   ·simp only [zzE] at hx;subst hx;exact rowT_lp hK
   split at hx
   ·obtain ⟨s,_,rfl⟩:=zzp.1 hx;exact hK
   split at hx
   ·split at hx
    ·cases hx
    ·simp only [zzE] at hx;subst hx;exact (show ktLp (.grp n.ix K) from hK)
   split at hx
   ·exact choose_lp hK hK x hx
   split at hx
   ·rename_i h2
    simp only [zzE] at hx;subst hx;exact ⟨hnn (.inl h2),hK⟩
   split at hx
   ·rename_i h3
    split at hx
    ·cases hx
    ·simp only [zzE] at hx;subst hx;exact (show ktLp (.dec n K) from ⟨hnn (.inr h3),hK⟩)
   ·cases hx
  ·cases hx
 | dcd n pl nt K =>
  simp only [Mean.work] at hx
  split at hx
  ·exact choose_lp (show ktLp (.dec n K) from h) h.2 x hx
  ·cases hx
 | go K pl nt =>
  cases K with
  | top=>simp only [Mean.work] at hx;cases hx
  | row l K=>simp only [Mean.work,zzE] at hx;subst hx;exact rowT_lp h
  | grp i K=>simp only [Mean.work,zzE] at hx;subst hx;exact (show ktLp K from h)
  | dec n K=>simp only [Mean.work,zzE] at hx;subst hx;exact h
theorem task_does (G:Wk) (hwf:G.wf) (hbase:∀ w,G.cst w→G.base≤w.heap.size) (s s':Mean.St) (k:Mean.Task) (hu:k.uses G.U G.t.length) (hlp:taskLp k) (hb:s.calls≤4611686018427387904)
  (h:G.chain (Mean.work G.t G.at_ s k).1 (Mean.work G.t G.at_ s k).2 s'):G.does s k s':=by
 cases k with
 | beg n pl nt K =>
  simp only [Mean.work] at h
  by_cases hm:s.met (n.ad,pl,false)=0
  ·rw [if_pos hm] at h
   rcases hwf.kinds n hu.1 with e | e | e | e | e | e | e | e | e
   ·exact beg_1 G hwf s s' n pl nt K e hm h hb
   ·exact beg_2 G hwf s s' n pl nt K e hm h hb
   ·exact beg_3 G hwf s s' n pl nt K e hm h hb
   ·exact beg_4 G hwf s s' n pl nt K e hm h hb
   ·exact beg_5 G hwf s s' n pl nt K e hm h hb
   ·exact beg_7 G hwf s s' n pl nt K e hm h hb
   ·exact beg_q G hwf s s' n pl nt K e hm h hb
   ·exact beg_s G hwf s s' n pl nt K e hm h hb
   ·exact beg_p G hwf s s' n pl nt K e hm h hb
  ·rw [if_neg hm] at h
   obtain rfl:s'=_:=h
   exact beg_met G hwf s s n pl nt K hm trivial hb
 | dcd n pl nt K =>
  exact decide_any G hwf s s' n pl nt K hlp.1 hb h
 | go K pl nt =>
  cases K with
  | top =>
   obtain rfl:s'=_:=h
   exact top_clo G hwf s pl nt hbase
  | row l K=>exact row_clo G s s' l K pl nt h
  | grp i K=>exact grp_clo G s s' i K pl nt h hwf.nl.2
  | dec n K=>exact dec_clo G s s' n K pl nt h
theorem wf_lp {G:Wk} (hwf:G.wf) {k:Mean.Task} (hu:k.uses G.U G.t.length):∀ n pl nt K,k=.beg n pl nt K→n.kind=-2∨n.kind=-3→n.subs≠[]:=by
 rintro n pl nt K rfl h
 exact hwf.one n hu.1 (h.elim (fun h=>.inr (.inr (.inl h))) (fun h=>.inr (.inr (.inr h))))
mutual
theorem one_does (G:Wk) (hwf:G.wf) (hbase:∀ w,G.cst w→G.base≤w.heap.size):∀ {s s':Mean.St} {k:Mean.Task},Mean.One G.t G.at_ s k s'→k.uses G.U G.t.length→taskLp k→s'.calls≤4611686018427387904→G.does s k s'
 | s,s',k,.mk h,hu,hlp,hb=>task_does G hwf hbase s s' k hu hlp (zzU (work_mono (t:=G.t) (at_:=G.at_) s k) (zzU (many_mono h) hb)) (many_does G hwf hbase h (Mean.work_uses hwf.closed hu) (work_lp (wf_lp hwf hu) hlp) hb)
theorem many_does (G:Wk) (hwf:G.wf) (hbase:∀ w,G.cst w→G.base≤w.heap.size):∀ {s s':Mean.St} {l:List Mean.Task},Mean.Many G.t G.at_ s l s'→(∀ k∈l,k.uses G.U G.t.length)→(∀ k∈l,taskLp k)→s'.calls≤4611686018427387904→G.chain s l s'
 | _,_,_,.nil,_,_,_=>rfl
 | _,_,_,.cons h1 h2,hu,hlp,hb=>⟨_,one_does G hwf hbase h1 (hu _ zzH) (hlp _ zzH) (zzU (many_mono h2) hb),many_does G hwf hbase h2 (fun k hk=>hu k (zzI _ hk)) (fun k hk=>hlp k (zzI _ hk)) hb⟩
end
end Go.Proofs.YtgkclnmmjedmkaaGreat
namespace Go.Proofs.YtgkclnmmjedmkaaGreat
open Go.RowKit Mach
theorem results_cell_row {P:Program} {fn:Func} {p:Tmp} {ty:TypeId} (h:fn.results=#[.cell p ty]) (tmps:Array Value) (w:World) (g:Nat) (t:TypeId) (cs:Array Value) (d:TypeDesc)
  (hp:tmps.getD p undef=.pointer (some ⟨g,0,none⟩)) (hg:Blk w g t cs.toList)
  (hu:P.underlying ty=some d) (hd:isRow d=true) (hi:(P.info? ty).map (·.size)=some cs.size) :
  (results fn tmps).run P w=.ok (.agg cs) w:=by
 have hp':tmps[p]?.getD undef=.pointer (some ⟨g,0,none⟩):=by simpa using hp
 simp [results,h,asAddr,hp',Result.andThen,run_loadVar_row w g t ty cs (0,0) d hg hu (by cases d <;> first | rfl | (simp [isRow] at hd)) hi]
theorem size_prog:(Tryz.prog.info? 32).map (·.size)=some 3:=by kernel_rfl
theorem und_prog:∃ d,Tryz.prog.underlying 32=some d∧isRow d=true:=⟨_,Tryz.underlying32,rfl⟩
theorem mask_test (x s:Nat) (hx:x < 18446744073709551616):(bits .and .u64 ((x:Int) / 2 ^ s) 1==1)=x.testBit s:=by
 have e:(x:Int) / 2 ^ s=((x / 2 ^ s:Nat):Int):=by norm_cast
 have hle:x / 2 ^ s≤x:=Nat.div_le_self _ _
 have:=bits_and_u64_nat (x / 2 ^ s) 1 (by omega) (by omega)
 rw [e,show (1:Int)=((1:Nat):Int) from rfl,this,Nat.and_one_is_mod,Nat.testBit_eq_decide_div_mod_eq]
 rw [Bool.eq_iff_iff,zyE,decide_eq_true_iff]
 omega
theorem mask_wrap (s:Nat) (hs:s < 64):IntKind.u64.wrap (2 ^ s)=((2 ^ s:Nat):Int):=by
 have:=(by decide +kernel:∀ s < 64,IntKind.u64.wrap (2 ^ s)=((2 ^ s:Nat):Int))
 exact this s hs
theorem mask_set (x s:Nat) (hx:x < 18446744073709551616) (hs:s < 64):bits .or .u64 (x:Int) (IntKind.u64.wrap (2 ^ s))=((x ||| 2 ^ s:Nat):Int):=by
 rw [mask_wrap s hs]
 refine bits_or_u64_nat _ _ hx ?_
 have:=Nat.pow_lt_pow_right (a:=2) (by omega) hs
 exact this
structure Bits (ws:List Nat) (met:List Bool):Prop where
 len:ws.length=met.length / 64+1
 small:∀ x∈ws,x < 18446744073709551616
 bit:∀ q,q < met.length→(ws.getD (q / 64) 0).testBit (q % 64)=met.getD q true
theorem Bits.new (N:Nat):Bits (List.replicate (N / 64+1) 0) (List.replicate N false) where
 len:=by simp
 small:=fun x hx=>by rw [(List.mem_replicate.1 hx).2];omega
 bit:=fun q hq=>by
  rw [zyC] at hq
  rw [zzf,List.getElem?_replicate,if_pos (by omega),zzf,List.getElem?_replicate,if_pos hq]
  simp
section
variable {ws:List Nat} {met:List Bool} (h:Bits ws met) {q:Nat} (hq:q < met.length)
include h hq
theorem Bits.at_:∃ x,ws[q / 64]?=some x∧x < 18446744073709551616∧x.testBit (q % 64)=met.getD q true:=by
 have hl:q / 64 < ws.length:=by rw [h.len];omega
 refine ⟨ws[q / 64],zzJ hl,h.small _ (List.getElem_mem hl),?_⟩
 rw [←h.bit q hq,zzf,zzJ hl]
 rfl
theorem Bits.set_ {x:Nat} (hx:ws[q / 64]?=some x):Bits (ws.set (q / 64) (x ||| 2 ^ (q % 64))) (met.set q true) where
 len:=by simp [h.len]
 small:=fun y hy=>by
  rcases List.mem_or_eq_of_mem_set hy with hy | rfl
  ·exact h.small y hy
  ·have hx2:=h.small x (zzL hx)
   have h2:(2:Nat) ^ (q % 64) < 2 ^ 64:=Nat.pow_lt_pow_right (by omega) (by omega)
   exact Nat.or_lt_two_pow (n:=64) hx2 h2
 bit:=fun r hr=>by
  rw [zzu] at hr
  have hl:q / 64 < ws.length:=by rw [h.len];omega
  have hold:=h.bit r hr
  rw [zzf,List.getElem?_set,zzf,List.getElem?_set]
  rw [zzf,zzf] at hold
  by_cases e:q=r
  ·subst e
   rw [if_pos rfl,if_pos hl,if_pos rfl,if_pos hr]
   simp [Nat.testBit_or,Nat.testBit_two_pow_self]
  ·rw [if_neg e]
   by_cases e2:q / 64=r / 64
   ·rw [if_pos e2,if_pos hl,←hold,←e2,hx]
    have hne:q % 64≠r % 64:=by omega
    simp [Nat.testBit_or,Nat.testBit_two_pow_of_ne hne]
   ·rw [if_neg e2]
    exact hold
end
end Go.Proofs.YtgkclnmmjedmkaaGreat
namespace Go.Proofs.YtgkclnmmjedmkaaGreat
open Tr Mach
namespace Mean
mutual
def lenN:Un→Nat
 | .mk _ k _ _ _ _ l =>
  if k=2∨k=3 then 1 else if k=7∨k=-2 then lensN l+2 else if k=5 then lensN l+2*(l.length - 1)
  else if k=-1∨k=-3 then lensN l+1 else lensN l
def lensN:List Un→Nat
 | []=>0
 | u :: l=>lenN u+lensN l
end
mutual
def codeN:Un→Nat→List Ins
 | .mk _ k r a i z l,b =>
  if k=2 then (if r=[] then [⟨6,0,0,0,[]⟩] else [⟨1,(b+1:Nat),0,0,r⟩])
  else if k=3 then [⟨4,(b+1:Nat),0,a,[]⟩]
  else if k=7 then ⟨3,(b+1:Nat),0,2*i,[]⟩ :: (codesN l (b+1)++[⟨3,(b+1+lensN l+1:Nat),0,2*i+1,[]⟩])
  else if k=5 then altN l b (b+(lensN l+2*(l.length - 1)))
  else if k=-3 then codesN l b++[altI z b (b+lensN l+1)]
  else if k=-2 then altI z (b+1) (b+1+lensN l+1) :: (codesN l (b+1)++[⟨7,(b:Nat),0,0,[]⟩])
  else if k=-1 then altI z (b+1) (b+1+lensN l) :: codesN l (b+1)
  else codesN l b
def codesN:List Un→Nat→List Ins
 | [],_=>[]
 | t :: l,b=>codeN t b++codesN l (b+lenN t)
def altN:List Un→Nat→Nat→List Ins
 | [],_,_=>[]
 | t :: l,b,e=>if l.isEmpty then codeN t b else ⟨2,(b+1:Nat),(b+1+lenN t+1:Nat),0,[]⟩ :: (codeN t (b+1)++⟨7,(e:Nat),0,0,[]⟩ :: altN l (b+1+lenN t+1) e)
end
def nodeW (n:Un):Prop :=
 (n.kind=1∨n.kind=2∨n.kind=3∨n.kind=4∨n.kind=5∨n.kind=7∨n.kind=-1∨n.kind=-2∨n.kind=-3) ∧
 (n.kind=1∨n.kind=2∨n.kind=3→n.subs=[])∧(n.kind=5→2≤n.subs.length)∧(n.kind=7→1≤n.ix)∧(n.kind=7∨n.kind=-1∨n.kind=-2∨n.kind=-3→∃ s,n.subs=[s])
def rowK:List Un→Nat→List (Un × Nat)
 | [],_=>[]
 | u :: l,b=>(u,b) :: rowK l (b+lenN u)
def altK:List Un→Nat→List (Un × Nat)
 | [],_=>[]
 | u :: l,b=>if l.isEmpty then [(u,b)] else (u,b+1) :: altK l (b+1+lenN u+1)
def kidsB (n:Un) (b:Nat):List (Un × Nat) :=
 if n.kind=5 then altK n.subs b else if n.kind=7∨n.kind=-1∨n.kind=-2 then rowK n.subs (b+1) else rowK n.subs b
theorem rowK_fst:∀ (l:List Un) (b:Nat),(rowK l b).map (·.1)=l
 | [],_=>rfl
 | u :: l,b=>by rw [rowK,zzS,rowK_fst l]
theorem altK_fst:∀ (l:List Un) (b:Nat),(altK l b).map (·.1)=l
 | [],_=>rfl
 | u :: l,b=>by
  rw [altK]
  split
  ·rename_i h;rw [List.isEmpty_iff.1 h];rfl
  ·rw [zzS,altK_fst l]
theorem kidsB_fst (n:Un) (b:Nat):(kidsB n b).map (·.1)=n.subs:=by
 unfold kidsB
 split
 ·exact altK_fst _ _
 ·split <;> exact rowK_fst _ _
mutual
def posB:Un→Nat→List (Un × Nat)
 | .mk a k r s i z l,b=>(.mk a k r s i z l,b) :: (if k=5 then posAB l b else if k=7∨k=-1∨k=-2 then posRB l (b+1) else posRB l b)
def posRB:List Un→Nat→List (Un × Nat)
 | [],_=>[]
 | u :: l,b=>posB u b++posRB l (b+lenN u)
def posAB:List Un→Nat→List (Un × Nat)
 | [],_=>[]
 | u :: l,b=>if l.isEmpty then posB u b else posB u (b+1)++posAB l (b+1+lenN u+1)
end
theorem posRB_kids:∀ (l:List Un) (b:Nat),posRB l b=(rowK l b).flatMap fun q=>posB q.1 q.2
 | [],_=>rfl
 | u :: l,b=>by rw [posRB,rowK,posRB_kids l];rfl
theorem posAB_kids:∀ (l:List Un) (b:Nat),posAB l b=(altK l b).flatMap fun q=>posB q.1 q.2
 | [],_=>rfl
 | u :: l,b=>by
  rw [posAB,altK]
  split
  ·simp
  ·rw [posAB_kids l];rfl
theorem posB_eq (n:Un) (b:Nat):posB n b=(n,b) :: (kidsB n b).flatMap fun q=>posB q.1 q.2:=by
 cases n with
 | mk a k r s i z l =>
  rw [posB]
  unfold kidsB
  show _=_ :: List.flatMap _ (if k=5 then altK l b else if k=7∨k=-1∨k=-2 then rowK l (b+1) else rowK l b)
  split
  ·rw [posAB_kids]
  ·split <;> rw [posRB_kids]
theorem posB_self (n:Un) (b:Nat):(n,b)∈posB n b:=by rw [posB_eq];exact zzH
theorem posB_ads:∀ (u:Un) (b:Nat),(posB u b).map (fun q=>q.1.ad)=u.all.map Un.ad:=by
 intro u
 induction u using Un.ind with
 | h u ih =>
  intro b
  have hl:∀ (L:List (Un × Nat)),(∀ q∈L,q.1∈u.subs)→(L.flatMap fun q=>posB q.1 q.2).map (fun q=>q.1.ad)=(allU (L.map (·.1))).map Un.ad:=by
   intro L
   induction L with
   | nil=>intro _;rfl
   | cons q L ihL =>
    intro h
    rw [zzl,zzT,ih q.1 (h q zzH),ihL fun x hx=>h x (zzI _ hx),zzS,allU,zzT]
  rw [posB_eq,zzS,hl _ fun q hq=>by rw [←kidsB_fst u b];exact zzk hq,kidsB_fst,all_subs u,zzS]
def altPc:List Un→Nat→List Nat
 | [],_=>[]
 | u :: l,b=>if l.isEmpty then [] else b :: altPc l (b+1+lenN u+1)
def ownB (n:Un) (b:Nat):List Nat :=
 if n.kind=5 then altPc n.subs b else if n.kind=-1∨n.kind=-2 then [b] else if n.kind=-3 then [b+lenN n - 1] else []
theorem lenN_eq (n:Un):lenN n=if n.kind=2∨n.kind=3 then 1 else if n.kind=7∨n.kind=-2 then lensN n.subs+2 else if n.kind=5 then lensN n.subs+2*(n.subs.length - 1) else if n.kind=-1∨n.kind=-3 then lensN n.subs+1 else lensN n.subs:=by
 cases n;rw [lenN];rfl
def Within (L:List (Un × Nat)) (lo hi:Nat):Prop:=(∀ q∈L,lo≤q.2∧q.2+lenN q.1≤hi)∧L.Pairwise fun q r=>q.2+lenN q.1≤r.2
theorem rowK_within:∀ (l:List Un) (b:Nat),Within (rowK l b) b (b+lensN l)
 | [],b=>⟨by simp [rowK],by simp [rowK]⟩
 | u :: l,b=>by
  obtain ⟨h1,h2⟩:=rowK_within l (b+lenN u)
  rw [rowK,lensN]
  refine ⟨fun q hq=>?_,List.pairwise_cons.2 ⟨fun q hq=>(h1 q hq).1,h2⟩⟩
  rcases zzN.1 hq with rfl | hq
  ·exact ⟨zzF _,by simp only [];omega⟩
  ·have:=h1 q hq;omega
theorem altK_within:∀ (l:List Un) (b:Nat),Within (altK l b) b (b+(lensN l+2*(l.length - 1)))
 | [],b=>⟨by simp [altK],by simp [altK]⟩
 | u :: l,b=>by
  obtain ⟨h1,h2⟩:=altK_within l (b+1+lenN u+1)
  rw [altK,lensN]
  split
  ·rename_i h
   rw [List.isEmpty_iff.1 h]
   refine ⟨fun q hq=>?_,by simp⟩
   rw [zzE] at hq
   subst hq
   simp [lensN]
  ·rename_i h
   have hl:1≤l.length:=by
    cases l with
    | nil=>simp at h
    | cons v l=>simp
   refine ⟨fun q hq=>?_,List.pairwise_cons.2 ⟨fun q hq=>by have:=(h1 q hq).1;simp only [];omega,h2⟩⟩
   rw [zzO]
   rcases zzN.1 hq with rfl | hq
   ·simp only [];omega
   ·have:=h1 q hq;omega
theorem kids_within {n:Un} (b:Nat) (hw:nodeW n):Within (kidsB n b) b (b+lenN n):=by
 have mono:∀ {L:List (Un × Nat)} {lo hi lo' hi':Nat},Within L lo hi→lo'≤lo→hi≤hi'→Within L lo' hi':=fun h h1 h2=>⟨fun q hq=>by have:=h.1 q hq;omega,h.2⟩
 unfold kidsB
 rw [lenN_eq]
 by_cases k5:n.kind=5
 ·rw [if_pos k5,if_neg (by omega),if_neg (by omega),if_pos k5];exact altK_within _ _
 rw [if_neg k5]
 by_cases k2:n.kind=2∨n.kind=3
 ·rw [if_pos k2,if_neg (by omega),hw.2.1 (by omega)];exact ⟨by simp [rowK],by simp [rowK]⟩
 rw [if_neg k2,if_neg k5]
 by_cases k7:n.kind=7∨n.kind=-2
 ·rw [if_pos k7,if_pos (by omega)];exact mono (rowK_within _ _) (by omega) (by omega)
 rw [if_neg k7]
 by_cases k1:n.kind=-1
 ·rw [if_pos (.inr (.inl k1)),if_pos (.inl k1)];exact mono (rowK_within _ _) (by omega) (by omega)
 rw [if_neg (by omega)]
 split
 ·exact mono (rowK_within _ _) (by omega) (by omega)
 ·exact rowK_within _ _
theorem altPc_in:∀ (l:List Un) (b:Nat),∀ i∈altPc l b,b≤i∧i < b+(lensN l+2*(l.length - 1))∧∀ q∈altK l b,i < q.2∨q.2+lenN q.1≤i
 | [],b,i,hi=>by simp [altPc] at hi
 | u :: l,b,i,hi=>by
  rw [altPc] at hi
  rw [altK,lensN]
  split at hi
  ·simp at hi
  ·rename_i h
   have hl:1≤l.length:=by
    cases l with
    | nil=>simp at h
    | cons v l=>simp
   rw [if_neg h,zzO]
   have hk:=altK_within l (b+1+lenN u+1)
   rcases zzN.1 hi with rfl | hi
   ·refine ⟨zzF _,by omega,fun q hq=>?_⟩
    rcases zzN.1 hq with rfl | hq
    ·simp only [];omega
    ·have:=(hk.1 q hq).1;omega
   ·obtain ⟨h1,h2,h3⟩:=altPc_in l (b+1+lenN u+1) i hi
    refine ⟨by omega,by omega,fun q hq=>?_⟩
    rcases zzN.1 hq with rfl | hq
    ·simp only [];omega
    ·exact h3 q hq
theorem own_in {n:Un} {b:Nat} (hw:nodeW n):∀ i∈ownB n b,b≤i∧i < b+lenN n∧∀ q∈kidsB n b,i < q.2∨q.2+lenN q.1≤i:=by
 intro i hi
 unfold ownB at hi
 unfold kidsB
 by_cases k5:n.kind=5
 ·rw [if_pos k5] at hi
  rw [if_pos k5,lenN_eq,if_neg (by omega),if_neg (by omega),if_pos k5]
  exact altPc_in _ _ i hi
 rw [if_neg k5] at hi ⊢
 by_cases k1:n.kind=-1∨n.kind=-2
 ·rw [if_pos k1,zzE] at hi
  subst hi
  rw [if_pos (by omega)]
  have:=rowK_within n.subs (i+1)
  refine ⟨zzF _,?_,fun q hq=>.inl (by have:=(this.1 q hq).1;omega)⟩
  rw [lenN_eq]
  rcases k1 with k1 | k1 <;> simp [k1]
 rw [if_neg k1] at hi
 by_cases k3:n.kind=-3
 ·rw [if_pos k3,zzE] at hi
  rw [if_neg (by omega)]
  have hl:lenN n=lensN n.subs+1:=by rw [lenN_eq];simp [k3]
  have:=rowK_within n.subs b
  refine ⟨by omega,by omega,fun q hq=>.inr (by have:=(this.1 q hq).2;omega)⟩
 ·rw [if_neg k3] at hi;cases hi
theorem pos_within:∀ (u:Un) (b:Nat),(∀ n∈u.all,nodeW n)→∀ q∈posB u b,b≤q.2∧q.2+lenN q.1≤b+lenN u:=by
 intro u
 induction u using Un.ind with
 | h u ih =>
  intro b hw q hq
  rw [posB_eq] at hq
  rcases zzN.1 hq with rfl | hq
  ·exact ⟨zzF _,zzF _⟩
  obtain ⟨c,hc,hq⟩:=zzs.1 hq
  have hcs:c.1∈u.subs:=by rw [←kidsB_fst u b];exact zzk hc
  have h1:=ih c.1 hcs c.2 (fun n hn=>hw n (by rw [all_subs u];exact zzI _ (by rw [allU_flat];exact zzs.2 ⟨_,hcs,hn⟩))) q hq
  have h2:=(kids_within b (hw u (by rw [all_subs u];exact zzH))).1 c hc
  omega
theorem pos_node {u:Un} {b:Nat} {q:Un × Nat} (hq:q∈posB u b):q.1∈u.all:=by
 have:∀ (u:Un) (b:Nat),∀ q∈posB u b,q.1∈u.all:=by
  intro u
  induction u using Un.ind with
  | h u ih =>
   intro b q hq
   rw [posB_eq] at hq
   rw [all_subs u]
   rcases zzN.1 hq with rfl | hq
   ·exact zzH
   obtain ⟨c,hc,hq⟩:=zzs.1 hq
   have hcs:c.1∈u.subs:=by rw [←kidsB_fst u b];exact zzk hc
   exact zzI _ (by rw [allU_flat];exact zzs.2 ⟨_,hcs,ih c.1 hcs c.2 q hq⟩)
 exact this u b q hq
theorem own_one:∀ (u:Un) (b:Nat),(∀ n∈u.all,nodeW n)→∀ q∈posB u b,∀ r∈posB u b,∀ i,i∈ownB q.1 q.2→i∈ownB r.1 r.2→q=r:=by
 intro u
 induction u using Un.ind with
 | h u ih =>
  intro b hw q hq r hr i hi hj
  have hwu:=hw u (by rw [all_subs u];exact zzH)
  have hws:∀ s∈u.subs,∀ n∈s.all,nodeW n:=fun s hs n hn=>hw n (by rw [all_subs u];exact zzI _ (by rw [allU_flat];exact zzs.2 ⟨_,hs,hn⟩))
  have hks:∀ c∈kidsB u b,c.1∈u.subs:=fun c hc=>by rw [←kidsB_fst u b];exact zzk hc
  have inn:∀ c∈kidsB u b,∀ q∈posB c.1 c.2,i∈ownB q.1 q.2→c.2≤i∧i < c.2+lenN c.1:=fun c hc q hq hi=>by
   have h1:=pos_within c.1 c.2 (hws _ (hks c hc)) q hq
   have h2:=own_in (hws _ (hks c hc) q.1 (pos_node hq)) i hi
   omega
  rw [posB_eq] at hq hr
  rcases zzN.1 hq with rfl | hq
  ·rcases zzN.1 hr with rfl | hr
   ·rfl
   obtain ⟨d,hd,hr⟩:=zzs.1 hr
   have h1:=inn d hd r hr hj
   have h2:=(own_in hwu i hi).2.2 d hd
   omega
  obtain ⟨c,hc,hq⟩:=zzs.1 hq
  have h1:=inn c hc q hq hi
  rcases zzN.1 hr with rfl | hr
  ·have h2:=(own_in hwu i hj).2.2 c hc
   omega
  obtain ⟨d,hd,hr⟩:=zzs.1 hr
  have h2:=inn d hd r hr hj
  have hpw:=(kids_within b hwu).2
  have hcd:c=d:=by
   obtain ⟨x,hx,rfl⟩:=List.mem_iff_getElem.1 hc
   obtain ⟨y,hy,rfl⟩:=List.mem_iff_getElem.1 hd
   rw [List.pairwise_iff_getElem] at hpw
   rcases Nat.lt_trichotomy x y with h | h | h
   ·have:=hpw x y hx hy h;omega
   ·subst h;rfl
   ·have:=hpw y x hy hx h;omega
  subst hcd
  exact ih c.1 (hks c hc) c.2 (hws _ (hks c hc)) q hq r hr i hi hj
end Mean
namespace Mean
theorem codesN_length (l:List Un) (ih:∀ s∈l,∀ b,(codeN s b).length=lenN s):∀ b,(codesN l b).length=lensN l:=by
 induction l with
 | nil=>intro b;rfl
 | cons t l ihl =>
  intro b
  rw [codesN,lensN,zzG,ih t zzH,ihl fun s hs=>ih s (zzI _ hs)]
theorem altN_length (l:List Un) (ih:∀ s∈l,∀ b,(codeN s b).length=lenN s):∀ b e,(altN l b e).length=lensN l+2*(l.length - 1):=by
 induction l with
 | nil=>intro b e;rfl
 | cons t l ihl =>
  intro b e
  have h:=ihl fun s hs=>ih s (zzI _ hs)
  rw [altN,lensN,zzO]
  cases l with
  | nil=>simp [ih t zzH,lensN]
  | cons u l =>
   rw [if_neg (by simp),zzO,zzG,zzO,ih t zzH,h]
   simp only [zzO]
   omega
theorem codeN_eq (n:Un) (b:Nat):codeN n b =
  if n.kind=2 then (if n.rng=[] then [⟨6,0,0,0,[]⟩] else [⟨1,(b+1:Nat),0,0,n.rng⟩])
  else if n.kind=3 then [⟨4,(b+1:Nat),0,n.ast,[]⟩]
  else if n.kind=7 then ⟨3,(b+1:Nat),0,2*n.ix,[]⟩ :: (codesN n.subs (b+1)++[⟨3,(b+1+lensN n.subs+1:Nat),0,2*n.ix+1,[]⟩])
  else if n.kind=5 then altN n.subs b (b+(lensN n.subs+2*(n.subs.length - 1)))
  else if n.kind=-3 then codesN n.subs b++[altI n.lz b (b+lensN n.subs+1)]
  else if n.kind=-2 then altI n.lz (b+1) (b+1+lensN n.subs+1) :: (codesN n.subs (b+1)++[⟨7,(b:Nat),0,0,[]⟩])
  else if n.kind=-1 then altI n.lz (b+1) (b+1+lensN n.subs) :: codesN n.subs (b+1)
  else codesN n.subs b:=by cases n;rw [codeN];rfl
theorem codeN_length:∀ (u:Un) (b:Nat),(codeN u b).length=lenN u:=by
 intro u
 induction u using Un.ind with
 | h u ih =>
  intro b
  have h1:=codesN_length u.subs ih
  have h2:=altN_length u.subs ih
  rw [codeN_eq,lenN_eq]
  by_cases k2:u.kind=2
  ·rw [if_pos k2,if_pos (show u.kind=2∨u.kind=3 from .inl k2)];split <;> rfl
  by_cases k3:u.kind=3
  ·rw [if_neg k2,if_pos k3,if_pos (show u.kind=2∨u.kind=3 from .inr k3)];rfl
  rw [if_neg k2,if_neg k3,if_neg (show ¬(u.kind=2∨u.kind=3) from fun h=>h.elim k2 k3)]
  by_cases k7:u.kind=7
  ·rw [if_pos k7,if_pos (show u.kind=7∨u.kind=-2 from .inl k7),zzO,zzG,h1];simp
  rw [if_neg k7]
  by_cases k5:u.kind=5
  ·rw [if_pos k5,if_neg (by omega),if_pos k5,h2]
  rw [if_neg k5]
  by_cases m3:u.kind=-3
  ·rw [if_pos m3,if_neg (by omega),if_neg k5,if_pos (show u.kind=-1∨u.kind=-3 from .inr m3),zzG,h1];simp
  rw [if_neg m3]
  by_cases m2:u.kind=-2
  ·rw [if_pos m2,if_pos (show u.kind=7∨u.kind=-2 from .inr m2),zzO,zzG,h1];simp
  rw [if_neg m2]
  by_cases m1:u.kind=-1
  ·rw [if_pos m1,if_neg (by omega),if_neg k5,if_pos (show u.kind=-1∨u.kind=-3 from .inl m1),zzO,h1]
  ·rw [if_neg m1,if_neg (by omega),if_neg k5,if_neg (by omega),h1]
section
variable (I:Nat→Option Ins) (P:List (Un × Nat))
def CodeAt (L:List Ins) (b:Nat):Prop:=∀ (j:Nat) x,L[j]?=some x→I (b+j)=some x
def RowP:List Un→Nat→Prop
 | [],_=>True
 | u :: l,b=>(u,b)∈P∧RowP l (b+lenN u)
def AltP:List Un→Nat→Nat→Prop
 | [],_,_=>True
 | u :: l,b,e=>if l.isEmpty then (u,b)∈P∧b+lenN u=e else
   I b=some ⟨2,(b+1:Nat),(b+1+lenN u+1:Nat),0,[]⟩∧(u,b+1)∈P∧I (b+1+lenN u)=some ⟨7,(e:Nat),0,0,[]⟩∧AltP l (b+1+lenN u+1) e
structure Loc (n:Un) (b:Nat):Prop where
 cls:n.kind=2→I b=some (if n.rng=[] then ⟨6,0,0,0,[]⟩ else ⟨1,(b+1:Nat),0,0,n.rng⟩)
 ass:n.kind=3→I b=some ⟨4,(b+1:Nat),0,n.ast,[]⟩
 row:n.kind=4→RowP P n.subs b∧lenN n=lensN n.subs
 alt:n.kind=5→AltP I P n.subs b (b+lenN n)
 grp:∀ s,n.kind=7→n.subs=[s]→I b=some ⟨3,(b+1:Nat),0,2*n.ix,[]⟩∧(s,b+1)∈P∧I (b+1+lenN s)=some ⟨3,(b+1+lenN s+1:Nat),0,2*n.ix+1,[]⟩∧lenN n=lenN s+2
 opt:∀ s,n.kind=-1→n.subs=[s]→I b=some (altI n.lz (b+1) (b+1+lenN s))∧(s,b+1)∈P∧lenN n=lenN s+1
 star:∀ s,n.kind=-2→n.subs=[s]→I b=some (altI n.lz (b+1) (b+1+lenN s+1))∧(s,b+1)∈P∧I (b+1+lenN s)=some ⟨7,(b:Nat),0,0,[]⟩∧lenN n=lenN s+2
 plus:∀ s,n.kind=-3→n.subs=[s]→I (b+lenN s)=some (altI n.lz b (b+lenN s+1))∧(s,b)∈P∧lenN n=lenN s+1
 one:n.kind=1→lenN n=0
 two:n.kind=2∨n.kind=3→lenN n=1
end
section
variable {I:Nat→Option Ins} {P:List (Un × Nat)}
theorem CodeAt.head {x:Ins} {L:List Ins} {b:Nat} (h:CodeAt I (x :: L) b):I b=some x:=h 0 x rfl
theorem CodeAt.tail {x:Ins} {L:List Ins} {b:Nat} (h:CodeAt I (x :: L) b):CodeAt I L (b+1):=fun j y hy=>by
 have:=h (j+1) y (by simpa using hy)
 rwa [show b+(j+1)=b+1+j from by omega] at this
theorem CodeAt.left {L M:List Ins} {b:Nat} (h:CodeAt I (L++M) b):CodeAt I L b:=fun j y hy=>h j y (by
 rw [List.getElem?_append_left (zzK.1 hy).1];exact hy)
theorem CodeAt.right {L M:List Ins} {b n:Nat} (h:CodeAt I (L++M) b) (hn:L.length=n):CodeAt I M (b+n):=fun j y hy=>by
 have:=h (L.length+j) y (by rw [zzz (by omega),show L.length+j - L.length=j from by omega];exact hy)
 rwa [show b+(L.length+j)=b+n+j from by omega] at this
theorem row_code:∀ (l:List Un) (b:Nat),CodeAt I (codesN l b) b→∀ c∈rowK l b,CodeAt I (codeN c.1 c.2) c.2
 | [],b,_,c,hc=>by simp [rowK] at hc
 | u :: l,b,h,c,hc=>by
  rw [codesN] at h
  rw [rowK] at hc
  rcases zzN.1 hc with rfl | hc
  ·exact h.left
  ·exact row_code l _ (h.right (codeN_length u b)) c hc
theorem alt_code:∀ (l:List Un) (b e:Nat),CodeAt I (altN l b e) b→∀ c∈altK l b,CodeAt I (codeN c.1 c.2) c.2
 | [],b,_,_,c,hc=>by simp [altK] at hc
 | u :: l,b,e,h,c,hc=>by
  rw [altN] at h
  rw [altK] at hc
  split at hc
  ·rename_i hl
   rw [if_pos hl] at h
   rw [zzE] at hc
   subst hc
   exact h
  ·rename_i hl
   rw [if_neg hl] at h
   rcases zzN.1 hc with rfl | hc
   ·exact h.tail.left
   ·exact alt_code l _ e (h.tail.right (codeN_length u _)).tail c hc
theorem kids_code {n:Un} {b:Nat} (hw:nodeW n) (h:CodeAt I (codeN n b) b):∀ c∈kidsB n b,CodeAt I (codeN c.1 c.2) c.2:=by
 rw [codeN_eq] at h
 unfold kidsB
 by_cases k2:n.kind=2
 ·rw [if_neg (by omega),if_neg (by omega),hw.2.1 (by omega)];intro c hc;simp [rowK] at hc
 rw [if_neg k2] at h
 by_cases k3:n.kind=3
 ·rw [if_neg (by omega),if_neg (by omega),hw.2.1 (by omega)];intro c hc;simp [rowK] at hc
 rw [if_neg k3] at h
 by_cases k7:n.kind=7
 ·rw [if_neg (by omega),if_pos (by omega)]
  rw [if_pos k7] at h
  exact row_code _ _ h.tail.left
 rw [if_neg k7] at h
 by_cases k5:n.kind=5
 ·rw [if_pos k5]
  rw [if_pos k5] at h
  exact alt_code _ _ _ h
 rw [if_neg k5] at h ⊢
 by_cases m3:n.kind=-3
 ·rw [if_neg (by omega)]
  rw [if_pos m3] at h
  exact row_code _ _ h.left
 rw [if_neg m3] at h
 by_cases m2:n.kind=-2
 ·rw [if_pos (by omega)]
  rw [if_pos m2] at h
  exact row_code _ _ h.tail.left
 rw [if_neg m2] at h
 by_cases m1:n.kind=-1
 ·rw [if_pos (by omega)]
  rw [if_pos m1] at h
  exact row_code _ _ h.tail
 rw [if_neg m1] at h
 rw [if_neg (by omega)]
 exact row_code _ _ h
theorem rowP_of:∀ (l:List Un) (b:Nat),(∀ c∈rowK l b,c∈P)→RowP P l b
 | [],_,_=>trivial
 | u :: l,b,h=>⟨h _ (by rw [rowK];exact zzH),rowP_of l _ fun c hc=>h c (by rw [rowK];exact zzI _ hc)⟩
theorem altP_of:∀ (l:List Un) (b e:Nat),(∀ c∈altK l b,c∈P)→CodeAt I (altN l b e) b→b+(lensN l+2*(l.length - 1))=e→AltP I P l b e
 | [],_,_,_,_,_=>trivial
 | u :: l,b,e,hk,h,he=>by
  rw [altN] at h
  rw [altK] at hk
  rw [AltP]
  rw [lensN,zzO] at he
  split
  ·rename_i hl
   rw [if_pos hl] at hk
   rw [List.isEmpty_iff.1 hl] at he
   simp only [lensN,List.length_nil] at he
   exact ⟨hk _ zzH,by omega⟩
  ·rename_i hl
   rw [if_neg hl] at hk h
   have hll:1≤l.length:=by
    cases l with
    | nil=>simp at hl
    | cons v l=>simp
   have h2:=h.tail.right (codeN_length u _)
   exact ⟨h.head,hk _ zzH,h2.head,altP_of l _ e (fun c hc=>hk c (zzI _ hc)) h2.tail (by omega)⟩
theorem lensN_one (s:Un):lensN [s]=lenN s:=by simp [lensN]
theorem loc_root {n:Un} {b:Nat} (hw:nodeW n) (hk:∀ c∈kidsB n b,c∈P) (h:CodeAt I (codeN n b) b):Loc I P n b:=by
 have hlen:=codeN_length
 have hle:=lenN_eq n
 rw [codeN_eq] at h
 unfold kidsB at hk
 refine ⟨fun e=>?_,fun e=>?_,fun e=>?_,fun e=>?_,fun s e hs=>?_,fun s e hs=>?_,fun s e hs=>?_,fun s e hs=>?_,fun e=>?_,fun e=>?_⟩
 ·rw [if_pos e] at h
  split at h
  ·rename_i hr;rw [if_pos hr];exact h.head
  ·rename_i hr;rw [if_neg hr];exact h.head
 ·rw [if_neg (by omega),if_pos e] at h
  exact h.head
 ·rw [if_neg (by omega),if_neg (by omega)] at hk
  rw [if_neg (by omega),if_neg (by omega),if_neg (by omega),if_neg (by omega)] at hle
  exact ⟨rowP_of _ _ hk,hle⟩
 ·rw [if_pos e] at hk
  rw [if_neg (by omega),if_neg (by omega),if_pos e] at hle
  rw [if_neg (by omega),if_neg (by omega),if_neg (by omega),if_pos e] at h
  refine altP_of _ _ _ hk (by rw [hle];exact h) (by rw [hle])
 ·rw [if_neg (by omega),if_pos (by omega),hs] at hk
  rw [if_neg (by omega),if_pos (by omega),hs,lensN_one] at hle
  rw [if_neg (by omega),if_neg (by omega),if_pos e,hs] at h
  refine ⟨h.head,hk _ (by rw [rowK];exact zzH),?_,hle⟩
  have:=h.tail.right (n:=lenN s) (by rw [codesN,codesN,zzY,hlen])
  rw [lensN_one] at this
  exact this.head
 ·rw [if_neg (by omega),if_pos (by omega),hs] at hk
  rw [if_neg (by omega),if_neg (by omega),if_neg (by omega),if_pos (by omega),hs,lensN_one] at hle
  rw [if_neg (by omega),if_neg (by omega),if_neg (by omega),if_neg (by omega),if_neg (by omega),if_neg (by omega),if_pos e,hs,lensN_one] at h
  exact ⟨h.head,hk _ (by rw [rowK];exact zzH),hle⟩
 ·rw [if_neg (by omega),if_pos (by omega),hs] at hk
  rw [if_neg (by omega),if_pos (by omega),hs,lensN_one] at hle
  rw [if_neg (by omega),if_neg (by omega),if_neg (by omega),if_neg (by omega),if_neg (by omega),if_pos e,hs,lensN_one] at h
  refine ⟨h.head,hk _ (by rw [rowK];exact zzH),?_,hle⟩
  have:=h.tail.right (n:=lenN s) (by rw [codesN,codesN,zzY,hlen])
  exact this.head
 ·rw [if_neg (by omega),if_neg (by omega),hs] at hk
  rw [if_neg (by omega),if_neg (by omega),if_neg (by omega),if_pos (by omega),hs,lensN_one] at hle
  rw [if_neg (by omega),if_neg (by omega),if_neg (by omega),if_neg (by omega),if_pos e,hs,lensN_one] at h
  have:=h.right (n:=lenN s) (by rw [codesN,codesN,zzY,hlen])
  exact ⟨this.head,hk _ (by rw [rowK];exact zzH),hle⟩
 ·rw [if_neg (by omega),if_neg (by omega),if_neg (by omega),if_neg (by omega),hw.2.1 (by omega)] at hle
  exact hle
 ·rw [if_pos e] at hle
  exact hle
theorem loc_all:∀ (u:Un) (b:Nat),(∀ n∈u.all,nodeW n)→(∀ q∈posB u b,q∈P)→CodeAt I (codeN u b) b→∀ q∈posB u b,Loc I P q.1 q.2:=by
 intro u
 induction u using Un.ind with
 | h u ih =>
  intro b hw hP h q hq
  have hwu:=hw u (by rw [all_subs u];exact zzH)
  have hks:∀ c∈kidsB u b,c.1∈u.subs:=fun c hc=>by rw [←kidsB_fst u b];exact zzk hc
  have hkP:∀ c∈kidsB u b,∀ r∈posB c.1 c.2,r∈P:=fun c hc r hr=>hP r (by rw [posB_eq];exact zzI _ (zzs.2 ⟨c,hc,hr⟩))
  rw [posB_eq] at hq
  rcases zzN.1 hq with rfl | hq
  ·exact loc_root hwu (fun c hc=>hkP c hc _ (posB_self _ _)) h
  obtain ⟨c,hc,hq⟩:=zzs.1 hq
  exact ih c.1 (hks c hc) c.2 (fun n hn=>hw n (by rw [all_subs u];exact zzI _ (by rw [allU_flat];exact zzs.2 ⟨_,hks c hc,hn⟩))) (hkP c hc) (kids_code hwu h c hc) q hq
end
end Mean
end Go.Proofs.YtgkclnmmjedmkaaGreat
namespace Go.Proofs.YtgkclnmmjedmkaaGreat.Mach
def setM (M:Nat→Nat→Bool) (i k:Nat):Nat→Nat→Bool:=fun a b=>if a=i∧b=k then true else M a b
theorem setM_self (M:Nat→Nat→Bool) (i k:Nat):setM M i k i k=true:=by simp [setM]
theorem setM_old {M:Nat→Nat→Bool} {a b:Nat} (i k:Nat) (h:M a b=true):setM M i k a b=true:=by unfold setM;split <;> simp [h]
theorem setM_iff {M:Nat→Nat→Bool} {i k a b:Nat}:setM M i k a b=true ↔ M a b=true∨(a=i∧b=k):=by
 unfold setM
 split
 ·rename_i h;simp [h]
 ·rename_i h;simp [h]
section
variable (p:Prg) (t:List Int)
mutual
inductive DOne:(Nat→Nat→Bool)→List Int→Nat × Nat→(Nat→Nat→Bool)→Option (List Int × Int)→Prop
 | met {M:Nat→Nat→Bool} {c:List Int} {q:Nat × Nat}:M q.1 q.2=true→DOne M c q M none
 | fin {M:Nat→Nat→Bool} {c:List Int} {q:Nat × Nat} {x:Ins}:M q.1 q.2=false→p.insts[q.1]?=some x→x.op=5→DOne M c q (setM M q.1 q.2) (some (c,x.arg))
 | step {M M':Nat→Nat→Bool} {c:List Int} {q:Nat × Nat} {x:Ins} {r:Option (List Int × Int)}:M q.1 q.2=false→p.insts[q.1]?=some x→x.op≠5→DMany (setM M q.1 q.2) (capsAt x q.2 c) (nexts t x q.2) M' r→DOne M c q M' r
inductive DMany:(Nat→Nat→Bool)→List Int→List (Nat × Nat)→(Nat→Nat→Bool)→Option (List Int × Int)→Prop
 | nil {M:Nat→Nat→Bool} {c:List Int}:DMany M c [] M none
 | cons {M M1 M2:Nat→Nat→Bool} {c:List Int} {q:Nat × Nat} {l:List (Nat × Nat)} {r:Option (List Int × Int)}:DOne M c q M1 none→DMany M1 c l M2 r→DMany M c (q :: l) M2 r
 | stop {M M1:Nat→Nat→Bool} {c:List Int} {q:Nat × Nat} {l:List (Nat × Nat)} {w:List Int × Int}:DOne M c q M1 (some w)→DMany M c (q :: l) M1 (some w)
end
theorem DMany.one {M M':Nat→Nat→Bool} {c:List Int} {q:Nat × Nat} {r:Option (List Int × Int)} (h:DOne p t M c q M' r):DMany p t M c [q] M' r:=by
 cases r with
 | none=>exact .cons h .nil
 | some w=>exact .stop h
variable (at_:Nat)
def Agree (s:MS) (M:Nat→Nat→Bool):Prop:=∀ i k,JobOk p t at_ (.pair i k)→(mP t at_ s i k ↔ M i k=true)
def Came1 (s':MS) (rest:List Job) (c:List Int) (M':Nat→Nat→Bool):Option (List Int × Int)→Prop
 | none=>s'.todo=rest∧s'.fin=none∧s'.caps=c∧Agree p t at_ s' M'
 | some w=>s'.fin=some w.2∧s'.caps=w.1
variable {p t at_}
mutual
theorem d_one (hc:checkB p=true):∀ {M M':Nat→Nat→Bool} {c:List Int} {q:Nat × Nat} {r:Option (List Int × Int)},DOne p t M c q M' r→∀ {s:MS} {rest:List Job},Ok p t at_ s→s.fin=none→s.todo=.pair q.1 q.2 :: rest→s.caps=c→Agree p t at_ s M→∃ n,Came1 p t at_ (iter p t at_ n s) rest c M' r
 | M,_,c,q,_,.met hm,s,rest,ho,hf,ht,hcs,ha=>by
  have hj:=ho.jobs (.pair q.1 q.2) (by rw [ht];exact zzH)
  refine ⟨1,?_⟩
  show Came1 p t at_ (mstep p t at_ s) rest c M none
  rw [mstep_met hf ht ((ha _ _ hj).2 hm)]
  exact ⟨rfl,hf,hcs,ha⟩
 | M,_,c,q,_,.fin (x:=x) hm hx h5,s,rest,ho,hf,ht,hcs,ha=>by
  have hj:=ho.jobs (.pair q.1 q.2) (by rw [ht];exact zzH)
  have hmm:s.met.getD (bitOf t at_ q.1 q.2) true=false:=by
   have:=(not_congr (ha _ _ hj)).2 (by rw [hm];simp)
   unfold mP at this
   simpa using this
  refine ⟨1,?_⟩
  show Came1 p t at_ (mstep p t at_ s) rest c _ _
  rw [mstep_pair hf ht hmm hx,eff_eq]
  refine ⟨by simp [h5],?_⟩
  show capsAt x q.2 s.caps=c
  unfold capsAt
  rw [if_neg (by omega),hcs]
 | M,M',c,q,r,.step (x:=x) hm hx h5 h,s,rest,ho,hf,ht,hcs,ha=>by
  have hj:=ho.jobs (.pair q.1 q.2) (by rw [ht];exact zzH)
  have hmm:s.met.getD (bitOf t at_ q.1 q.2) true=false:=by
   have:=(not_congr (ha _ _ hj)).2 (by rw [hm];simp)
   unfold mP at this
   simpa using this
  have e:=mstep_pair (p:=p) (t:=t) (at_:=at_) hf ht hmm hx
  rw [eff_eq,if_neg h5] at e
  simp only [] at e
  have ho1:=ho.step hc
  have ha1:Agree p t at_ (mstep p t at_ s) (setM M q.1 q.2):=fun i k hik=>by
   rw [e,mP_set (s:=s) rfl ho.met hj hik,setM_iff,ha i k hik]
  obtain ⟨n,hn⟩:=d_many hc h (s:=mstep p t at_ s) (rest:=under x s.caps++rest) ho1 (by rw [e];exact hf) (by rw [e]) (by rw [e];simp only [];rw [hcs]) ha1
  cases r with
  | some w =>
   refine ⟨1+n,?_⟩
   rw [iter_add]
   exact hn
  | none =>
   obtain ⟨g1,g2,g3,g4⟩:=hn
   by_cases h3:x.op=3
   ·refine ⟨1+n+1,?_⟩
    rw [iter_add,iter_add]
    have hu:under x s.caps=[.back x.arg.toNat (s.caps.getD x.arg.toNat 0)]:=by unfold under;rw [if_pos h3]
    rw [hu] at g1
    show Came1 p t at_ (mstep p t at_ (iter p t at_ n (mstep p t at_ s))) rest c M' none
    rw [mstep_back g2 g1]
    refine ⟨rfl,g2,?_,g4⟩
    show (iter p t at_ n (mstep p t at_ s)).caps.set _ _=c
    rw [g3]
    unfold capsAt
    rw [if_pos h3,hcs,set_back]
   ·refine ⟨1+n,?_⟩
    rw [iter_add]
    have hu:under x s.caps=[]:=by unfold under;rw [if_neg h3]
    rw [hu] at g1
    refine ⟨g1,g2,?_,g4⟩
    show (iter p t at_ n (mstep p t at_ s)).caps=c
    rw [g3]
    unfold capsAt
    rw [if_neg h3]
theorem d_many (hc:checkB p=true):∀ {M M':Nat→Nat→Bool} {c:List Int} {l:List (Nat × Nat)} {r:Option (List Int × Int)},DMany p t M c l M' r→∀ {s:MS} {rest:List Job},Ok p t at_ s→s.fin=none→s.todo=jobs l++rest→s.caps=c→Agree p t at_ s M→∃ n,Came1 p t at_ (iter p t at_ n s) rest c M' r
 | _,_,_,_,_,.nil,s,rest,ho,hf,ht,hcs,ha=>⟨0,ht,hf,hcs,ha⟩
 | _,_,_,_,_,.cons (q:=q) (l:=l) h1 h2,s,rest,ho,hf,ht,hcs,ha=>by
  obtain ⟨n,g1,g2,g3,g4⟩:=d_one hc h1 (s:=s) (rest:=jobs l++rest) ho hf ht hcs ha
  obtain ⟨m,hm⟩:=d_many hc h2 (s:=iter p t at_ n s) (rest:=rest) (ho.iter_ hc n) g2 g1 g3 g4
  exact ⟨n+m,by rw [iter_add];exact hm⟩
 | _,_,_,_,_,.stop (q:=q) (l:=l) h1,s,rest,ho,hf,ht,hcs,ha=>by
  obtain ⟨n,hn⟩:=d_one hc h1 (s:=s) (rest:=jobs l++rest) ho hf ht hcs ha
  exact ⟨n,hn⟩
end
theorem walk_is (hc:checkB p=true) {a b:Nat} (hb:a≤b∧b≤t.length) {M':Nat→Nat→Bool} {r:Option (List Int × Int)}
  (h:DOne p t (fun _ _=>false) (List.replicate p.caps.toNat (-1)) (p.start.toNat,b) M' r) :
  (final p t a (begin_ p b (List.replicate (p.insts.length*places t a) false) 0)).fin.map (fun w=>((final p t a (begin_ p b (List.replicate (p.insts.length*places t a) false) 0)).caps,w))=r:=by
 have ho:Ok p t a (begin_ p b (List.replicate (p.insts.length*places t a) false) 0):=Ok.start hc (zzU hb.1 hb.2) hb (by rw [zyC]) (by rw [zyC,List.count_replicate];simp)
 obtain ⟨n,hn⟩:=d_one hc h (s:=begin_ p b (List.replicate (p.insts.length*places t a) false) 0) (rest:=[]) ho rfl rfl rfl fun i k hj=>by
  refine ⟨fun hx=>absurd hx (fresh_met hj),fun hx=>by cases hx⟩
 generalize begin_ p b (List.replicate (p.insts.length*places t a) false) 0=X at hn ⊢
 have hfi:∀ _:halted (iter p t a n X),final p t a X=iter p t a n X:=fun hh=>by rw [←final_iter n X];exact final_halted hh
 cases r with
 | none =>
  obtain ⟨g1,g2,-,-⟩:=hn
  rw [hfi (.inr g1),g2];rfl
 | some w =>
  obtain ⟨g1,g2⟩:=hn
  rw [hfi (.inl (by rw [g1];simp)),g1,g2];rfl
theorem oneAt_is (hc:checkB p=true) {b:Nat} (hb:b≤t.length) {M':Nat→Nat→Bool} {r:Option (List Int × Int)}
  (h:DOne p t (fun _ _=>false) (List.replicate p.caps.toNat (-1)) (p.start.toNat,b) M' r):(oneAt p t b).fin.map (fun w=>((oneAt p t b).caps,w))=r :=
 walk_is hc ⟨zzF _,hb⟩ h
end
end Go.Proofs.YtgkclnmmjedmkaaGreat.Mach
namespace Go.Proofs.YtgkclnmmjedmkaaGreat
open Tr Mach
namespace Mean
inductive Chn (R:St→FTask→St→Prop):St→List FTask→St→Prop
 | nil {s:St}:Chn R s [] s
 | cons {s s1 s2:St} {k:FTask} {l:List FTask}:R s k s1→Chn R s1 l s2→Chn R s (k :: l) s2
section
variable {t:List Int} {at_:Nat}
mutual
theorem oneF_ind {M:St→FTask→St→Prop} (h:∀ s k s1,OneF t at_ s k s1→Chn (fun a x b=>OneF t at_ a x b∧M a x b) (workF t at_ s k).1 (workF t at_ s k).2 s1→M s k s1):∀ {s s1:St} {k:FTask},OneF t at_ s k s1→M s k s1
 | s,s1,k,.mk g=>h s k s1 (.mk g) (manyF_ind h g)
theorem manyF_ind {M:St→FTask→St→Prop} (h:∀ s k s1,OneF t at_ s k s1→Chn (fun a x b=>OneF t at_ a x b∧M a x b) (workF t at_ s k).1 (workF t at_ s k).2 s1→M s k s1):∀ {s s1:St} {l:List FTask},ManyF t at_ s l s1→Chn (fun a x b=>OneF t at_ a x b∧M a x b) s l s1
 | _,_,_,.nil=>.nil
 | _,_,_,.cons h1 h2=>.cons ⟨h1,oneF_ind h h1⟩ (manyF_ind h h2)
end
def GrowsF (s s1:St):Prop:=(∃ r,s1.out=s.out++r)∧∀ m,s.met m≠0→s1.met m≠0
theorem GrowsF.refl (s:St):GrowsF s s:=⟨⟨[],by simp⟩,fun _ h=>h⟩
theorem GrowsF.trans {a b c:St} (h:GrowsF a b) (g:GrowsF b c):GrowsF a c:=by
 obtain ⟨⟨r,hr⟩,h2⟩:=h
 obtain ⟨⟨q,hq⟩,g2⟩:=g
 exact ⟨⟨r++q,by rw [hq,hr,zyF]⟩,fun m hm=>g2 m (h2 m hm)⟩
theorem workF_grows (s:St) (k:FTask):GrowsF s (workF t at_ s k).1:=by
 cases k with
 | beg n pl nt F=>exact ⟨⟨[],by simp [workF,St.mark]⟩,fun m hm=>met_mark hm⟩
 | dcd n pl nt F=>exact ⟨⟨[],by simp [workF,St.mark]⟩,fun m hm=>met_mark hm⟩
 | top pl nt =>
  refine ⟨?_,fun m hm=>by rw [show (workF t at_ s (.top pl nt)).1=ended at_ s pl nt from rfl,ended_met];exact hm⟩
  show ∃ r,(ended at_ s pl nt).out=_
  unfold ended
  split
  ·exact ⟨[],by simp⟩
  ·exact ⟨_,rfl⟩
theorem chn_grows {M:St→FTask→St→Prop} (h:∀ a x b,M a x b→GrowsF a b):∀ {s s1:St} {l:List FTask},Chn M s l s1→GrowsF s s1
 | _,_,_,.nil=>GrowsF.refl _
 | _,_,_,.cons h1 h2=>(h _ _ _ h1).trans (chn_grows h h2)
theorem oneF_grows {s s1:St} {k:FTask} (h:OneF t at_ s k s1):GrowsF s s1 :=
 oneF_ind (M:=fun a _ b=>GrowsF a b) (fun s k s1 _ hc=>(workF_grows s k).trans (chn_grows (fun _ _ _ h=>h.2) hc)) h
theorem mark_back {s:St} {m x:Mark} (h:(s.mark m).met x≠0):s.met x≠0∨x=m:=by
 by_cases e:x=m
 ·exact .inr e
 ·rw [met_other e] at h;exact .inl h
end
def nmL:List Un→Nat→Prop
 | [],_=>True
 | u :: l,i=>u.ad=i∧nmL l (i+u.all.length)
theorem nmL_bd:∀ {l:List Un} {i:Nat},nmL l i→∀ u∈l,i≤u.ad∧u.ad+u.all.length≤i+(allU l).length
 | v :: l,i,h,u,hu=>by
  rw [allU,zzG]
  rcases zzN.1 hu with rfl | hu
  ·have:=h.1;omega
  ·have:=nmL_bd h.2 u hu;omega
structure Lay (I:Nat→Option Ins) (P:List (Un × Nat)) (E:Nat):Prop where
 loc:∀ q∈P,Loc I P q.1 q.2
 node:∀ q∈P,nodeW q.1
 nm:∀ q∈P,nmL q.1.subs (q.1.ad+1)
 ad:∀ q∈P,∀ r∈P,q.1.ad=r.1.ad→q=r
 own:∀ q∈P,∀ r∈P,∀ i,i∈ownB q.1 q.2→i∈ownB r.1 r.2→q=r
 fin:I E=some ⟨3,(E+1:Nat),0,1,[]⟩
 mat:I (E+1)=some ⟨5,0,0,0,[]⟩
inductive Cn (I:Nat→Option Ins) (P:List (Un × Nat)) (E:Nat):List Pc→Nat→Nat→Prop
 | top {j:Nat}:Cn I P E [] E j
 | nop {F:List Pc} {pc e j:Nat}:I pc=some ⟨7,(e:Nat),0,0,[]⟩→Cn I P E F e j→Cn I P E F pc j
 | b {n:Un} {F:List Pc} {b j:Nat}:(n,b)∈P→j≤n.ad→Cn I P E F (b+lenN n) (n.ad+n.all.length)→Cn I P E (.b n :: F) b j
 | g {i:Int} {F:List Pc} {pc j:Nat}:1≤i→I pc=some ⟨3,(pc+1:Nat),0,2*i+1,[]⟩→Cn I P E F (pc+1) j→Cn I P E (.g i :: F) pc j
 | d {n:Un} {F:List Pc} {pc b j:Nat}:(n,b)∈P→n.kind=-2∨n.kind=-3→pc∈ownB n b→Cn I P E F (b+lenN n) (n.ad+n.all.length)→Cn I P E (.d n :: F) pc j
section
variable {I:Nat→Option Ins} {P:List (Un × Nat)} {E:Nat}
theorem Cn.less {F:List Pc} {pc j:Nat} (h:Cn I P E F pc j):∀ {j':Nat},j'≤j→Cn I P E F pc j':=by
 induction h with
 | top=>intro j' _;exact .top
 | nop h1 _ ih=>intro j' hj;exact .nop h1 (ih hj)
 | b h1 h2 h3 _=>intro j' hj;exact .b h1 (zzU hj h2) h3
 | g h0 h1 _ ih=>intro j' hj;exact .g h0 h1 (ih hj)
 | d h1 h2 h3 h4 _=>intro j' _;exact .d h1 h2 h3 h4
theorem row_cn {F:List Pc} {e jF:Nat} (hF:Cn I P E F e jF):∀ {l:List Un} {b i:Nat},RowP P l b→nmL l i→b+lensN l=e→i+(allU l).length≤jF→Cn I P E (l.map .b++F) b i
 | [],b,i,_,_,he,hi=>by
  obtain rfl:b=e:=by rw [←he];simp [lensN]
  exact hF.less (by simpa [allU] using hi)
 | u :: l,b,i,hr,hn,he,hi=>by
  rw [lensN] at he
  rw [allU,zzG] at hi
  refine .b hr.1 (by rw [hn.1];exact zzF _) ?_
  rw [hn.1]
  exact row_cn hF hr.2 hn.2 (by omega) (by omega)
theorem alt_own:∀ {l:List Un} {b e:Nat},AltP I P l b e→∀ i∈altPc l b,∃ x,I i=some x∧x.op=2
 | [],_,_,_,i,hi=>by simp [altPc] at hi
 | u :: l,b,e,h,i,hi=>by
  rw [altPc] at hi
  rw [AltP] at h
  split at hi
  ·simp at hi
  ·rename_i hl
   rw [if_neg hl] at h
   rcases zzN.1 hi with rfl | hi
   ·exact ⟨_,h.1,rfl⟩
   ·exact alt_own h.2.2.2 i hi
theorem altI_op (z:Bool) (x y:Nat):(altI z x y).op=2:=by unfold altI;split <;> rfl
theorem Lay.own_op (L:Lay I P E) {q:Un × Nat} (hq:q∈P) {i:Nat} (hi:i∈ownB q.1 q.2):∃ x,I i=some x∧x.op=2:=by
 have hl:=L.loc q hq
 have hw:=L.node q hq
 unfold ownB at hi
 by_cases k5:q.1.kind=5
 ·rw [if_pos k5] at hi
  exact alt_own (hl.alt k5) i hi
 rw [if_neg k5] at hi
 by_cases k1:q.1.kind=-1∨q.1.kind=-2
 ·rw [if_pos k1,zzE] at hi
  subst hi
  rcases k1 with k1 | k1
  ·obtain ⟨s,hs⟩:=hw.2.2.2.2 (by omega)
   exact ⟨_,(hl.opt s k1 hs).1,altI_op _ _ _⟩
  ·obtain ⟨s,hs⟩:=hw.2.2.2.2 (by omega)
   exact ⟨_,(hl.star s k1 hs).1,altI_op _ _ _⟩
 rw [if_neg k1] at hi
 by_cases k3:q.1.kind=-3
 ·rw [if_pos k3,zzE] at hi
  obtain ⟨s,hs⟩:=hw.2.2.2.2 (by omega)
  obtain ⟨h1,-,h2⟩:=hl.plus s k3 hs
  rw [show q.2+lenN q.1 - 1=q.2+lenN s from by omega] at hi
  rw [hi]
  exact ⟨_,h1,altI_op _ _ _⟩
 ·rw [if_neg k3] at hi;cases hi
end
def dB (n:Un):Bool:=decide (n.kind=-2∨n.kind=-3)
structure Inv (I:Nat→Option Ins) (P:List (Un × Nat)) (E:Nat) (t:List Int) (s:St) (M:Nat→Nat→Bool) (T:Option (Nat × Nat)) (j:Nat) (Pd:List (Nat × Nat)):Prop where
 beg:∀ q∈P,∀ k,s.met (q.1.ad,k,false)≠0→M q.2 k=true∨(T=some (q.2,k)∧q.1.ad < j)
 dec:∀ q∈P,∀ k,s.met (q.1.ad,k,true)≠0→∀ i∈ownB q.1 q.2,M i k=true
 own:∀ q∈P,∀ i∈ownB q.1 q.2,∀ k,M i k=true→s.met (q.1.ad,k,dB q.1)≠0
 next:∀ i k x,I i=some x→x.op≠2→M i k=true→∀ r∈nexts t x k,M r.1 r.2=true∨T=some r
 pend:∀ r∈Pd,M r.1 r.2=false∧∃ q∈P,q.1.kind=5∧r.1∈ownB q.1 q.2∧s.met (q.1.ad,r.2,false)≠0
 fin:∀ k,M E k=false∧M (E+1) k=false
section
variable {I:Nat→Option Ins} {P:List (Un × Nat)} {E:Nat} {t:List Int} {at_:Nat} {s:St} {M:Nat→Nat→Bool} {T:Option (Nat × Nat)} {j:Nat} {Pd:List (Nat × Nat)}
theorem Inv.clear {i k:Nat} (h:Inv I P E t s M (some (i,k)) j Pd) (hM:M i k=true):Inv I P E t s M none 0 Pd:=by
 refine ⟨fun q hq k' hm=>?_,h.dec,h.own,fun i' k' x hx h2 hm r hr=>?_,h.pend,h.fin⟩
 ·rcases h.beg q hq k' hm with h1 | ⟨h1,-⟩
  ·exact .inl h1
  ·simp only [zzd,Prod.mk.injEq] at h1
   obtain ⟨rfl,rfl⟩:=h1
   exact .inl hM
 ·rcases h.next i' k' x hx h2 hm r hr with h1 | h1
  ·exact .inl h1
  ·simp only [zzd] at h1
   subst h1
   exact .inl hM
theorem Inv.weak (h:Inv I P E t s M none 0 Pd) (T:Option (Nat × Nat)) (j:Nat):Inv I P E t s M T j Pd :=
 ⟨fun q hq k hm=>Or.inl ((h.beg q hq k hm).elim id (fun e=>nomatch e.1)),h.dec,h.own,fun i k x hx h2 hm r hr=>Or.inl ((h.next i k x hx h2 hm r hr).elim id (fun e=>nomatch e)),h.pend,h.fin⟩
theorem Inv.drop {Q:List (Nat × Nat)} (h:Inv I P E t s M T j (Q++Pd)):Inv I P E t s M T j Pd :=
 ⟨h.beg,h.dec,h.own,h.next,fun r hr=>h.pend r (zzV _ hr),h.fin⟩
theorem Inv.mark (h:Inv I P E t s M none 0 Pd) {m:Mark} (hb:∀ q∈P,∀ k,m=(q.1.ad,k,false)→M q.2 k=true) (hd:∀ q∈P,∀ k,m=(q.1.ad,k,true)→∀ i∈ownB q.1 q.2,M i k=true):Inv I P E t (s.mark m) M none 0 Pd:=by
 refine ⟨fun q hq k hm=>?_,fun q hq k hm=>?_,fun q hq i hi k hm=>met_mark (h.own q hq i hi k hm),h.next,fun r hr=>?_,h.fin⟩
 ·rcases mark_back hm with h1 | h1
  ·exact h.beg q hq k h1
  ·exact .inl (hb q hq k h1.symm)
 ·rcases mark_back hm with h1 | h1
  ·exact h.dec q hq k h1
  ·exact hd q hq k h1.symm
 ·obtain ⟨h1,q,hq,h2,h3,h4⟩:=h.pend r hr
  exact ⟨h1,q,hq,h2,h3,met_mark h4⟩
theorem Inv.mark_beg (L:Lay I P E) {n:Un} {b pl:Nat} (h:Inv I P E t s M (some (b,pl)) j Pd) (hn:(n,b)∈P) (hj:j≤n.ad):Inv I P E t (s.mark (n.ad,pl,false)) M (some (b,pl)) (n.ad+1) Pd:=by
 refine ⟨fun q hq k hm=>?_,fun q hq k hm=>?_,fun q hq i hi k hm=>met_mark (h.own q hq i hi k hm),h.next,fun r hr=>?_,h.fin⟩
 ·rcases mark_back hm with h1 | h1
  ·rcases h.beg q hq k h1 with h2 | ⟨h2,h3⟩
   ·exact .inl h2
   ·exact .inr ⟨h2,by omega⟩
  ·simp only [Prod.mk.injEq,and_true] at h1
   obtain ⟨h1,rfl⟩:=h1
   obtain rfl:=L.ad q hq _ hn h1
   exact .inr ⟨rfl,by simp⟩
 ·rcases mark_back hm with h1 | h1
  ·exact h.dec q hq k h1
  ·simp at h1
 ·obtain ⟨h1,q,hq,h2,h3,h4⟩:=h.pend r hr
  exact ⟨h1,q,hq,h2,h3,met_mark h4⟩
theorem Inv.step (L:Lay I P E) {i k:Nat} {x:Ins} (h:Inv I P E t s M (some (i,k)) j Pd) (hx:I i=some x) (h5:x.op≠5) (h2:x.op≠2) (h3:x.op=3→x.arg≠1) {T':Option (Nat × Nat)} (hT:∀ r∈nexts t x k,T'=some r) :
  Inv I P E t s (setM M i k) T' 0 Pd:=by
 have nown:∀ q∈P,i ∉ ownB q.1 q.2:=fun q hq hi=>by
  obtain ⟨y,hy,ho⟩:=L.own_op hq hi
  rw [hx] at hy
  simp only [zzd] at hy
  subst hy
  exact h2 ho
 refine ⟨fun q hq k' hm=>?_,fun q hq k' hm i' hi'=>setM_old _ _ (h.dec q hq k' hm i' hi'),fun q hq i' hi' k' hm=>?_,fun i' k' y hy hy2 hm r hr=>?_,fun r hr=>?_,fun k'=>?_⟩
 ·rcases h.beg q hq k' hm with h1 | ⟨h1,-⟩
  ·exact .inl (setM_old _ _ h1)
  ·simp only [zzd,Prod.mk.injEq] at h1
   obtain ⟨rfl,rfl⟩:=h1
   exact .inl (setM_self _ _ _)
 ·rcases setM_iff.1 hm with h1 | ⟨rfl,rfl⟩
  ·exact h.own q hq i' hi' k' h1
  ·exact absurd hi' (nown q hq)
 ·rcases setM_iff.1 hm with h1 | ⟨rfl,rfl⟩
  ·rcases h.next i' k' y hy hy2 h1 r hr with h4 | h4
   ·exact .inl (setM_old _ _ h4)
   ·simp only [zzd] at h4
    subst h4
    exact .inl (setM_self _ _ _)
  ·rw [hx] at hy
   simp only [zzd] at hy
   subst hy
   exact .inr (hT r hr)
 ·obtain ⟨h1,q,hq,g2,g3,g4⟩:=h.pend r hr
  refine ⟨?_,q,hq,g2,g3,g4⟩
  unfold setM
  rw [if_neg (fun e=>nown q hq (by rw [←e.1];exact g3))]
  exact h1
 ·have h1:=h.fin k'
  unfold setM
  rw [if_neg (fun e=>by
   have e:=e.1
   subst e
   rw [L.fin] at hx
   simp only [zzd] at hx
   subst hx
   exact h3 rfl rfl),if_neg (fun e=>by
   have e:=e.1
   subst e
   rw [L.mat] at hx
   simp only [zzd] at hx
   subst hx
   exact h5 rfl)]
  exact h1
theorem Inv.step2 (L:Lay I P E) {i k:Nat} {q:Un × Nat} {s':St} (h:Inv I P E t s M (some (i,k)) j Pd) (hq:q∈P) (hi:i∈ownB q.1 q.2) (hp:(i,k) ∉ Pd) (hv:s'.met (q.1.ad,k,dB q.1)≠0)
  (hmono:∀ m,s.met m≠0→s'.met m≠0) (hnew:∀ m,s'.met m≠0→s.met m≠0∨(m=(q.1.ad,k,true)∧∀ i'∈ownB q.1 q.2,i'=i)) :
  Inv I P E t s' (setM M i k) none 0 Pd:=by
 obtain ⟨x,hx,hx2⟩:=L.own_op hq hi
 refine ⟨fun r hr k' hm=>?_,fun r hr k' hm i' hi'=>?_,fun r hr i' hi' k' hm=>?_,fun i' k' y hy hy2 hm r hr=>?_,fun r hr=>?_,fun k'=>?_⟩
 ·rcases hnew _ hm with h0 | ⟨h0,-⟩
  ·rcases h.beg r hr k' h0 with h1 | ⟨h1,-⟩
   ·exact .inl (setM_old _ _ h1)
   ·simp only [zzd,Prod.mk.injEq] at h1
    obtain ⟨rfl,rfl⟩:=h1
    exact .inl (setM_self _ _ _)
  ·simp at h0
 ·rcases hnew _ hm with h0 | ⟨h0,h1⟩
  ·exact setM_old _ _ (h.dec r hr k' h0 i' hi')
  ·simp only [Prod.mk.injEq,and_true] at h0
   obtain ⟨h0,rfl⟩:=h0
   obtain rfl:=L.ad r hr q hq h0
   rw [h1 i' hi']
   exact setM_self _ _ _
 ·rcases setM_iff.1 hm with h1 | ⟨rfl,rfl⟩
  ·exact hmono _ (h.own r hr i' hi' k' h1)
  ·obtain rfl:=L.own r hr q hq i' hi' hi
   exact hv
 ·rcases setM_iff.1 hm with h1 | ⟨rfl,rfl⟩
  ·rcases h.next i' k' y hy hy2 h1 r hr with h4 | h4
   ·exact .inl (setM_old _ _ h4)
   ·simp only [zzd] at h4
    subst h4
    exact .inl (setM_self _ _ _)
  ·rw [hx] at hy
   simp only [zzd] at hy
   subst hy
   exact absurd hx2 hy2
 ·obtain ⟨h1,q',hq',g2,g3,g4⟩:=h.pend r hr
  refine ⟨?_,q',hq',g2,g3,hmono _ g4⟩
  unfold setM
  rw [if_neg (fun e=>hp (by rw [←e.1,←e.2];exact hr))]
  exact h1
 ·have h1:=h.fin k'
  unfold setM
  rw [if_neg (fun e=>by
   have e:=e.1
   subst e
   rw [L.fin] at hx
   simp only [zzd] at hx
   subst hx
   simp at hx2),if_neg (fun e=>by
   have e:=e.1
   subst e
   rw [L.mat] at hx
   simp only [zzd] at hx
   subst hx
   simp at hx2)]
  exact h1
end
end Mean
end Go.Proofs.YtgkclnmmjedmkaaGreat
