/- simplify's row of trees: tree. -/
import Derived.Test.YtgkclnmmjedmkaaGreatP31
set_option maxRecDepth 100000
set_option maxHeartbeats 2000000
namespace Go.Proofs.YtgkclnmmjedmkaaGreat
open Go.RowKit Tr
theorem tree_any (B Bo:Nat) (X:List Nat) (rb:Nat) (v:Value) (us:List Ta) (w:World) (hr:RowV B Bo X rb 139 f1 v us w) (hB:B≤Bo) (hX:∀ x∈X,x < Bo) (hn:us.length≤1048576) :
  Calls Tryz.prog 73 #[.pointer (some ⟨rb,0,none⟩)] w fun e w'=>∃ u:Ta,e=.returned u.val∧u.tr=row (trs us)∧RT w' (Fr B (X++[rb]) w') u∧Below w.heap.size w w':=by
 obtain ⟨A,c,rfl⟩:=own_shape hr.own
 have hrb:=hr.blk.lt
 have hb1:Blk (w.alloc (.cells #[.int .i64 0,.slice none 0 0,.int .i64 0,.slice none 0 0,.int .i64 0,.int .i64 0,.bool false,.int .i64 0,.string ⟨#[]⟩] 25)) rb 139 [.slice A us.length c]:=hr.blk.alloc _
 have c0:(w.alloc (.cells #[.int .i64 0,.slice none 0 0,.int .i64 0,.slice none 0 0,.int .i64 0,.int .i64 0,.bool false,.int .i64 0,.string ⟨#[]⟩] 25)).cell? ⟨rb,0,none⟩=some (.slice A us.length c):=hb1.cell 0
 have hba:Below w.heap.size w (w.alloc (.cells #[.int .i64 0,.slice none 0 0,.int .i64 0,.slice none 0 0,.int .i64 0,.int .i64 0,.bool false,.int .i64 0,.string ⟨#[]⟩] 25)):=(zzb _ _).alloc (zzF _) _
 have hre:=zyI w 25 [.int .i64 0,.slice none 0 0,.int .i64 0,.slice none 0 0,.int .i64 0,.int .i64 0,.bool false,.int .i64 0,.string ⟨#[]⟩]
 have hways:us=[]∨(∃ u,us=[u])∨2≤us.length:=by
  match us with
  | []=>exact .inl rfl
  | [u]=>exact .inr (.inl ⟨u,rfl⟩)
  | _ :: _ :: _=>exact .inr (.inr (by simp))
 rcases hways with rfl | ⟨u,rfl⟩ | h2
 ·go_enter Tryz.func73,Tryz.ntmps73
  go_wp2_with fail
  refine zzm (node_ret rfl _ _ w.heap.size (Ta.mk 1 [] none 0 0 [] none 0 0 0 false 0 ⟨#[]⟩) rfl (zyI w _ _)) rfl ?_
  exact ⟨_,rfl,rfl,RT.of ⟨RdA.none_,by simp,by simp,by decide⟩ RdA.none_ (by simp),(zzb _ _).alloc (zzF _) _⟩
 ·obtain ⟨g,rfl,-,hg1,hg2⟩:=own_form hr.own (by simp)
  have hcell:∀ q,q < 9→(w.alloc (.cells #[.int .i64 0,.slice none 0 0,.int .i64 0,.slice none 0 0,.int .i64 0,.int .i64 0,.bool false,.int .i64 0,.string ⟨#[]⟩] 25)).cell? ⟨g,q,none⟩=u.vals[q]?:=fun q hq=>by
   have h1:=rowT_get [u] 0 q u rfl hq
   rw [Nat.zero_mul,zzw] at h1
   have h3:q < u.vals.length:=by rw [Ta.vals_length];exact hq
   rw [zzJ h3] at h1 ⊢
   exact (hba.cell (p:=⟨g,q,none⟩) hg2).trans (own_cell hr.own h1)
  have HU:=zzA (hr.els u (by simp))
  have hlt:(0:Int) < (([u]:List Ta).length:Int):=by simp
  clear hr hb1 hba hre hn
  cases u with
  | mk k' r' ra' rc' a' l' sa' sc' n' m' z' i' s' =>
  simp only [Ta.vals] at hcell
  have c1:=hcell 0 (by omega)
  have c2:=hcell 1 (by omega)
  have c3:=hcell 2 (by omega)
  have c4:=hcell 3 (by omega)
  have c5:=hcell 4 (by omega)
  have c6:=hcell 5 (by omega)
  have c7:=hcell 6 (by omega)
  have c8:=hcell 7 (by omega)
  have c9:=hcell 8 (by omega)
  simp only [zzR,zzX] at c1 c2 c3 c4 c5 c6 c7 c8 c9
  clear hcell
  go_enter Tryz.func73,Tryz.ntmps73
  go_wp2_with fail
  refine zzm (node_ret rfl _ _ w.heap.size (Ta.mk k' r' ra' rc' a' l' sa' sc' n' m' z' i' s') rfl (zyI w _ _)) rfl ?_
  exact ⟨_,rfl,rfl,(HU.out.fr_below ((zzb _ _).alloc (zzF _) _)).fr_less (fun b hb=>by simp at hb ⊢;rcases hb with h | h;exact .inl h;exact .inr (.inl h)),(zzb _ _).alloc (zzF _) _⟩
 ·have h0:((us.length:Int)==0)=false:=zzh.2 (by omega)
  have h1:((us.length:Int)==1)=false:=zzh.2 (by omega)
  have HR:=zzA hr
  have hrow:row (trs us)=catT (trs us):=by
   have:=trs_length us
   match h:trs us with
   | []=>rw [h] at this;simp at this;omega
   | [x]=>rw [h] at this;simp at this;omega
   | x :: y :: l=>rfl
  have HROW:=zzA hrow
  clear hr hb1 hba hre hrow h2
  go_enter Tryz.func73,Tryz.ntmps73
  go_wp2_with fail
  have hb2:Below w.heap.size w (w.alloc (.cells #[.int .i64 4,.slice none 0 0,.int .i64 0,.slice A us.length c,.int .i64 0,.int .i64 0,.bool false,.int .i64 0,.string ⟨#[]⟩] 25)):=(zzb _ _).alloc (zzF _) _
  refine zzm (node_ret rfl _ _ w.heap.size (Ta.mk 4 [] none 0 0 us A c 0 0 false 0 ⟨#[]⟩) rfl (zyI w _ _)) rfl ?_
  refine ⟨_,rfl,HROW.out.symm,RT.of ⟨RdA.none_,by simp,hn,by decide⟩ ?_ fun u hu=>((HR.out.els u hu).fr_below hb2).fr_less (fun b hb=>by simp at hb ⊢;rcases hb with h | h;exact .inl h;exact .inr (.inl h)),hb2⟩
  obtain ⟨A',c',he,hra⟩:=RdA.of_own (L:=X++[rb]) (own_lower (own_below HR.out.own hb2) hB) (fun b hb hm=>by
   simp at hm
   rcases hm with hm | hm
   ·have:=hX b hm;have:=(HR.out.own.lt b hb).1;omega
   ·subst hm;exact HR.out.sep hb)
  cases he
  exact hra
theorem rep_any (B:Nat) (L:List Nat) (u:Ta) (b:Nat) (mn mx:Int) (z:Bool) (w:World) (hz:w.cell? ⟨b,6,none⟩=some (.bool z)) (hu:RT w (Fr B L w) u) (hB:B≤w.heap.size) (hL:∀ x∈L,x < w.heap.size) :
  Calls Tryz.prog 101 #[u.val,.int .i64 mn,.int .i64 mx,.pointer (some ⟨b,0,none⟩)] w fun e w'=>∃ v:Ta,e=.returned v.val∧v.tr=repT u.tr mn mx z∧RT w' (Fr B L w') v∧Below w.heap.size w w':=by
 have hb2:=two_below w (.cells u.vals.toArray 25) (.cells #[.int .i64 0,.slice none 0 0,.int .i64 0,.slice none 0 0,.int .i64 0,.int .i64 0,.bool false,.int .i64 0,.string ⟨#[]⟩] 25)
 have hbl:=zze w _ hz
 have hz2:((w.alloc (.cells u.vals.toArray 25)).alloc (.cells #[.int .i64 0,.slice none 0 0,.int .i64 0,.slice none 0 0,.int .i64 0,.int .i64 0,.bool false,.int .i64 0,.string ⟨#[]⟩] 25)).cell? ⟨b,6,none⟩=some (.bool z):=(hb2.cell (p:=⟨b,6,none⟩) hbl).trans hz
 have HU:=zzA hu
 have HB2:=zzA hb2
 have hbl2:b < w.heap.size:=hbl
 clear hu hb2 hz hbl
 cases u with
 | mk k' r' ra' rc' a' l' sa' sc' n' m' z' i' s' =>
 simp only [Ta.val,Ta.vals] at hz2 HB2 ⊢
 go_enter Tryz.func101,Tryz.ntmps101
 go_wp2_with fail
 have hb3:Below w.heap.size w (((w.alloc (.cells #[.int .i64 k',.slice ra' r'.length rc',.int .i64 a',.slice sa' l'.length sc',.int .i64 n',.int .i64 m',.bool z',.int .i64 i',.string s'] 25)).alloc (.cells #[.int .i64 6,.slice none 0 0,.int .i64 0,.slice (some ⟨w.heap.size+1+1,0,none⟩) 1 1,.int .i64 mn,.int .i64 mx,.bool z,.int .i64 0,.string ⟨#[]⟩] 25)).alloc (.cells #[.int .i64 k',.slice ra' r'.length rc',.int .i64 a',.slice sa' l'.length sc',.int .i64 n',.int .i64 m',.bool z',.int .i64 i',.string s'] 25)):=(two_below w _ _).alloc (by simp;omega) _
 have hv:Blk (((w.alloc (.cells #[.int .i64 k',.slice ra' r'.length rc',.int .i64 a',.slice sa' l'.length sc',.int .i64 n',.int .i64 m',.bool z',.int .i64 i',.string s'] 25)).alloc (.cells #[.int .i64 6,.slice none 0 0,.int .i64 0,.slice (some ⟨w.heap.size+1+1,0,none⟩) 1 1,.int .i64 mn,.int .i64 mx,.bool z,.int .i64 0,.string ⟨#[]⟩] 25)).alloc (.cells #[.int .i64 k',.slice ra' r'.length rc',.int .i64 a',.slice sa' l'.length sc',.int .i64 n',.int .i64 m',.bool z',.int .i64 i',.string s'] 25)) (w.heap.size+1) 25 [.int .i64 6,.slice none 0 0,.int .i64 0,.slice (some ⟨w.heap.size+1+1,0,none⟩) 1 1,.int .i64 mn,.int .i64 mx,.bool z,.int .i64 0,.string ⟨#[]⟩]:=(two_blk w (.cells #[.int .i64 k',.slice ra' r'.length rc',.int .i64 a',.slice sa' l'.length sc',.int .i64 n',.int .i64 m',.bool z',.int .i64 i',.string s'] 25) 25 [.int .i64 6,.slice none 0 0,.int .i64 0,.slice (some ⟨w.heap.size+1+1,0,none⟩) 1 1,.int .i64 mn,.int .i64 mx,.bool z,.int .i64 0,.string ⟨#[]⟩]).alloc _
 have hs:Blk (((w.alloc (.cells #[.int .i64 k',.slice ra' r'.length rc',.int .i64 a',.slice sa' l'.length sc',.int .i64 n',.int .i64 m',.bool z',.int .i64 i',.string s'] 25)).alloc (.cells #[.int .i64 6,.slice none 0 0,.int .i64 0,.slice (some ⟨w.heap.size+1+1,0,none⟩) 1 1,.int .i64 mn,.int .i64 mx,.bool z,.int .i64 0,.string ⟨#[]⟩] 25)).alloc (.cells #[.int .i64 k',.slice ra' r'.length rc',.int .i64 a',.slice sa' l'.length sc',.int .i64 n',.int .i64 m',.bool z',.int .i64 i',.string s'] 25)) (w.heap.size+1+1) 25 [.int .i64 k',.slice ra' r'.length rc',.int .i64 a',.slice sa' l'.length sc',.int .i64 n',.int .i64 m',.bool z',.int .i64 i',.string s']:=by
  have:=zyI ((w.alloc (.cells #[.int .i64 k',.slice ra' r'.length rc',.int .i64 a',.slice sa' l'.length sc',.int .i64 n',.int .i64 m',.bool z',.int .i64 i',.string s'] 25)).alloc (.cells #[.int .i64 6,.slice none 0 0,.int .i64 0,.slice (some ⟨w.heap.size+1+1,0,none⟩) 1 1,.int .i64 mn,.int .i64 mx,.bool z,.int .i64 0,.string ⟨#[]⟩] 25)) 25 [.int .i64 k',.slice ra' r'.length rc',.int .i64 a',.slice sa' l'.length sc',.int .i64 n',.int .i64 m',.bool z',.int .i64 i',.string s']
  rwa [show ((w.alloc (.cells #[.int .i64 k',.slice ra' r'.length rc',.int .i64 a',.slice sa' l'.length sc',.int .i64 n',.int .i64 m',.bool z',.int .i64 i',.string s'] 25)).alloc (.cells #[.int .i64 6,.slice none 0 0,.int .i64 0,.slice (some ⟨w.heap.size+1+1,0,none⟩) 1 1,.int .i64 mn,.int .i64 mx,.bool z,.int .i64 0,.string ⟨#[]⟩] 25)).heap.size=w.heap.size+1+1 from by simp] at this
 generalize ((w.alloc (.cells #[.int .i64 k',.slice ra' r'.length rc',.int .i64 a',.slice sa' l'.length sc',.int .i64 n',.int .i64 m',.bool z',.int .i64 i',.string s'] 25)).alloc (.cells #[.int .i64 6,.slice none 0 0,.int .i64 0,.slice (some ⟨w.heap.size+1+1,0,none⟩) 1 1,.int .i64 mn,.int .i64 mx,.bool z,.int .i64 0,.string ⟨#[]⟩] 25)).alloc (.cells #[.int .i64 k',.slice ra' r'.length rc',.int .i64 a',.slice sa' l'.length sc',.int .i64 n',.int .i64 m',.bool z',.int .i64 i',.string s'] 25)=wf at *
 refine zzm (node_ret rfl _ _ (w.heap.size+1) (Ta.mk 6 [] none 0 0 [Ta.mk k' r' ra' rc' a' l' sa' sc' n' m' z' i' s'] (some ⟨w.heap.size+1+1,0,none⟩) 1 mn mx z 0 ⟨#[]⟩) rfl hv) rfl ?_
 refine ⟨_,rfl,rfl,RT.of ⟨RdA.none_,by simp,by simp,by decide⟩ ?_ ?_,hb3⟩
 ·refine ⟨zzF _,by decide,rfl,(fun h=>by cases h),fun _=>⟨w.heap.size+1+1,0,rfl,⟨by omega,hs.lt,fun hm=>by have:=hL _ hm;omega⟩,fun j v hj=>?_⟩⟩
  rw [zzw,hs.cell]
  simpa [rowT,Ta.vals] using hj
 ·intro v hv
  simp only [zzE] at hv
  subst hv
  exact HU.out.fr_below hb3
def repsT (p:List Tr.Tr) (j:Nat):List Tr.Tr:=(List.replicate j p).flatten
theorem reps_zero (p:List Tr.Tr):repsT p 0=[]:=rfl
theorem reps_succ (p:List Tr.Tr) (j:Nat):repsT p (j+1)=repsT p j++p:=by
 unfold repsT
 rw [List.replicate_succ',List.flatten_append]
 simp
theorem reps_len (p:List Tr.Tr) (j:Nat):(repsT p j).length=j*p.length:=by
 induction j with
 | zero=>simp [reps_zero]
 | succ j ih=>rw [reps_succ,zzG,ih,Nat.succ_mul]
theorem len_sizes (l:List Tr.Tr):l.length≤sizes l:=by
 induction l with
 | nil=>simp
 | cons t l ih=>have:=size_pos t;rw [sizes,zzO];omega
theorem row_len (l:List Tr.Tr):l.length≤size (row l):=by
 match l with
 | []=>simp
 | [x]=>simp [row];exact size_pos x
 | x :: y :: l =>
  have:=len_sizes (x :: y :: l)
  rw [show row (x :: y :: l)=catT (x :: y :: l) from rfl,catT,size]
  omega
theorem subs_pos {t:Tr.Tr} (h:allB t=true) (hk:t.kind=4):2≤t.subs.length:=by
 cases kinds h with
 | cat l hc hs=>exact hc
 | empty=>simp [emptyT,Tr.kind] at hk
 | cls r hr=>simp [Tr.kind] at hk
 | ass a ha=>simp [Tr.kind] at hk
 | alt l hc hs=>simp [altT,Tr.kind] at hk
 | rep x n m z hx h0 hb hm=>simp [repT,Tr.kind] at hk
 | group x i s hx h0 hb hm=>simp [groupT,Tr.kind] at hk
theorem Ta.subs_len (t:Ta):t.subs.length=t.tr.subs.length:=by rw [Ta.tr_subs,zzP]
theorem putA_len (t:Ta):(putA t).length=(putT t.tr).length:=by rw [←putA_tr,trs_length]
theorem trs_append (a b:List Ta):trs (a++b)=trs a++trs b:=by rw [trs_map,trs_map,trs_map,zzT]
structure US (B:Nat) (X:List Nat) (w:World) (y t:Ta) (v:Value) (us:List Ta) (wr:World):Prop where
 below:Below w.heap.size w wr
 yb:Blk wr w.heap.size 25 y.vals
 tb:Blk wr (w.heap.size+1) 25 t.vals
 res:Blk wr (w.heap.size+1+1) 25 [.int .i64 0,.slice none 0 0,.int .i64 0,.slice none 0 0,.int .i64 0,.int .i64 0,.bool false,.int .i64 0,.string ⟨#[]⟩]
 row:RowV B (w.heap.size+1+1+1+1) ((w.heap.size+1+1) :: X) (w.heap.size+1+1+1) 139 f1 v us wr
 yt:RT wr (Fr B (((w.heap.size+1+1) :: X)++(w.heap.size+1+1+1) :: v.ownBlock.toList) wr) y
 xs:∀ x∈X,w.heap.size+1+1+1 < x∧x < wr.heap.size∧v.ownBlock≠some x
section
variable {B:Nat} {X:List Nat} {w:World} {y t:Ta} {v:Value} {us:List Ta} {wr wq:World}
theorem US.own_ge (h:US B X w y t v us wr) (g:Nat) (hg:v.ownBlock=some g):w.heap.size+1+1+1 < g∧g < wr.heap.size:=by
 have:=h.row.own.lt g hg;omega
theorem US.bel (h:US B X w y t v us wr) (hb:Below wr.heap.size wr wq):US B X w y t v us wq :=
 ⟨h.below.trans (hb.mono h.below.size),h.yb.below hb h.yb.lt,h.tb.below hb h.tb.lt,h.res.below hb h.res.lt,
  ⟨h.row.blk.below hb h.row.blk.lt,own_below h.row.own hb,fun u hu=>(h.row.els u hu).fr_below hb,h.row.sep⟩,h.yt.fr_below hb,fun x hx=>⟨(h.xs x hx).1,zzQ (h.xs x hx).2.1 hb.size,(h.xs x hx).2.2⟩⟩
theorem US.put (h:US B X w y t v us wr) {v':Value} {us':List Ta} (hr:RowV B (w.heap.size+1+1+1+1) ((w.heap.size+1+1) :: X) (w.heap.size+1+1+1) 139 f1 v' us' wq) (hk:Kept wr wq ((w.heap.size+1+1+1) :: v.ownBlock.toList)) (hv:v'.ownBlock=v.ownBlock∨∃ g,v'.ownBlock=some g∧wr.heap.size≤g):US B X w y t v' us' wq:=by
 have hB3:=h.row.blk.lt
 have hge:∀ x∈(w.heap.size+1+1+1) :: v.ownBlock.toList,w.heap.size+1+1 < x:=fun x hx=>by
  rcases zzN.1 hx with rfl | hx
  ·omega
  ·have:=h.own_ge x (by simpa using hx);omega
 refine ⟨zyH h.below hk (fun x hx=>by have:=hge x hx;omega) h.below.size,h.yb.kept hk (fun hm=>by have:=hge _ hm;omega),h.tb.kept hk (fun hm=>by have:=hge _ hm;omega),h.res.kept hk (fun hm=>by have:=hge _ hm;omega),hr,?_,?_⟩
 ·refine h.yt.fr_kept hk (fun x hx=>.inl (zzV _ hx)) fun x hx=>?_
  rcases zzM.1 hx with hx | hx
  ·exact .inl (zzW _ hx)
  ·rcases zzN.1 hx with rfl | hx
   ·exact .inl (by simp)
   ·rcases hv with e | ⟨g,e,hg⟩
    ·rw [e] at hx;exact .inl (zzV _ (zzI _ hx))
    ·rw [e] at hx
     simp at hx
     subst hx
     exact .inr (.inl hg)
 ·intro x hx
  obtain ⟨h1,h2,h3⟩:=h.xs x hx
  refine ⟨h1,zzQ h2 hk.size,?_⟩
  rcases hv with e | ⟨g,e,hg⟩
  ·rw [e];exact h3
  ·rw [e];intro e2;simp at e2;omega
theorem US.setb (h:US B X w y t v us wr) {g:Nat} (hg:g∈X) (hk:Kept wr wq [g]):US B X w y t v us wq:=by
 obtain ⟨h1,h2,h3⟩:=h.xs g hg
 have hM:∀ b∈[g],b∈((w.heap.size+1+1) :: X)++(w.heap.size+1+1+1) :: v.ownBlock.toList∨wr.heap.size≤b∨b < B:=fun b hb=>by
  simp at hb;subst hb;exact .inl (zzW _ (zzI _ hg))
 refine ⟨zyH h.below hk (fun x hx=>by simp at hx;omega) h.below.size,h.yb.kept hk (by simp;omega),h.tb.kept hk (by simp;omega),h.res.kept hk (by simp;omega),⟨h.row.blk.kept hk (by simp;omega),own_kept h.row.own hk (fun b hb hm=>by simp at hm;subst hm;exact h3 hb),fun u hu=>(h.row.els u hu).fr_kept hk hM (fun b hb=>.inl hb),h.row.sep⟩,h.yt.fr_kept hk hM (fun b hb=>.inl hb),fun x hx=>?_⟩
 obtain ⟨g1,g2,g3⟩:=h.xs x hx
 exact ⟨g1,zzQ g2 hk.size,g3⟩
theorem US.more (h:US B [] w y t v us wr) {g:Nat} (hb:Below wr.heap.size wr wq) (hg:wr.heap.size≤g) (hq:g < wq.heap.size):US B [g] w y t v us wq:=by
 have hq2:=h.bel hb
 have hB3:=h.row.blk.lt
 have hL:∀ b∈[w.heap.size+1+1,g]++(w.heap.size+1+1+1) :: v.ownBlock.toList,b∈[w.heap.size+1+1]++(w.heap.size+1+1+1) :: v.ownBlock.toList∨wr.heap.size≤b∨b < B:=fun b hb=>by
  rcases zzM.1 hb with hb | hb
  ·simp at hb
   rcases hb with rfl | rfl
   ·exact .inl (by simp)
   ·exact .inr (.inl hg)
  ·exact .inl (zzV _ hb)
 refine ⟨hq2.below,hq2.yb,hq2.tb,hq2.res,⟨hq2.row.blk,hq2.row.own,fun u hu=>(h.row.els u hu).fr_kept (Kept.of_below (L:=[]) hb) (by simp) hL,h.row.sep⟩,h.yt.fr_kept (Kept.of_below (L:=[]) hb) (by simp) hL,fun x hx=>?_⟩
 simp at hx
 subst hx
 refine ⟨by omega,hq,fun e=>?_⟩
 have:=h.own_ge x e
 omega
theorem US.less (h:US B X w y t v us wr):US B [] w y t v us wr :=
 ⟨h.below,h.yb,h.tb,h.res,⟨h.row.blk,h.row.own,fun u hu=>(h.row.els u hu).fr_less (fun b hb=>(by simp at hb ⊢;rcases hb with h | h;exact .inl h;exact .inr (.inr h))),h.row.sep⟩,h.yt.fr_less (fun b hb=>(by simp at hb ⊢;rcases hb with h | h;exact .inl h;exact .inr (.inr h))),by simp⟩
end
theorem us_lt {B:Nat} {X:List Nat} {w:World} {y t:Ta} {v:Value} {us:List Ta} {wr:World} (h:US B X w y t v us wr):∀ x∈((w.heap.size+1+1) :: X)++(w.heap.size+1+1+1) :: v.ownBlock.toList,x < wr.heap.size:=fun x hx=>by
 have hb:=h.row.blk.lt
 rcases zzM.1 hx with hx | hx
 ·rcases zzN.1 hx with rfl | hx
  ·omega
  ·exact (h.xs x hx).2.1
 ·rcases zzN.1 hx with rfl | hx
  ·exact hb
  ·exact (h.own_ge x (by simpa using hx)).2
theorem us_start (B:Nat) (y t:Ta) (w:World) (hy:RT w (Fr B [] w) y) (hB:B≤w.heap.size) {W:World} (hW:W=((((w.alloc (.cells y.vals.toArray 25)).alloc (.cells t.vals.toArray 25)).alloc (.cells #[.int .i64 0,.slice none 0 0,.int .i64 0,.slice none 0 0,.int .i64 0,.int .i64 0,.bool false,.int .i64 0,.string ⟨#[]⟩] 25)).alloc (.cells #[.slice none 0 0] 139))):US B [] w y t (.slice none 0 0) [] W:=by
 have e2:((w.alloc (.cells y.vals.toArray 25)).alloc (.cells t.vals.toArray 25)).heap.size=w.heap.size+1+1:=by simp
 have e3:(((w.alloc (.cells y.vals.toArray 25)).alloc (.cells t.vals.toArray 25)).alloc (.cells #[.int .i64 0,.slice none 0 0,.int .i64 0,.slice none 0 0,.int .i64 0,.int .i64 0,.bool false,.int .i64 0,.string ⟨#[]⟩] 25)).heap.size=w.heap.size+1+1+1:=by simp
 have hb3:Below w.heap.size w (((w.alloc (.cells y.vals.toArray 25)).alloc (.cells t.vals.toArray 25)).alloc (.cells #[.int .i64 0,.slice none 0 0,.int .i64 0,.slice none 0 0,.int .i64 0,.int .i64 0,.bool false,.int .i64 0,.string ⟨#[]⟩] 25)):=(two_below w _ _).alloc (by rw [e2];omega) _
 have hb:Below w.heap.size w W:=hW ▸ hb3.alloc (by rw [e3];omega) _
 have h2:=zyI ((w.alloc (.cells y.vals.toArray 25)).alloc (.cells t.vals.toArray 25)) 25 [.int .i64 0,.slice none 0 0,.int .i64 0,.slice none 0 0,.int .i64 0,.int .i64 0,.bool false,.int .i64 0,.string ⟨#[]⟩]
 rw [e2] at h2
 have h3:=zyI (((w.alloc (.cells y.vals.toArray 25)).alloc (.cells t.vals.toArray 25)).alloc (.cells #[.int .i64 0,.slice none 0 0,.int .i64 0,.slice none 0 0,.int .i64 0,.int .i64 0,.bool false,.int .i64 0,.string ⟨#[]⟩] 25)) 139 [.slice none 0 0]
 rw [e3] at h3
 refine ⟨hb,?_,?_,?_,⟨?_,World.ownsRow_nil _ _ _ _,by simp,by simp [Value.ownBlock]⟩,?_,by simp⟩
 ·rw [hW];exact (((zyI w 25 y.vals).alloc _).alloc _).alloc _
 ·rw [hW];exact ((two_blk w _ 25 t.vals).alloc _).alloc _
 ·rw [hW];exact h2.alloc _
 ·rw [hW];exact h3
 ·exact hy.fr_kept (Kept.of_below (L:=[]) hb) (by simp) (by simp [Value.ownBlock];omega)
theorem unfT_star (B:Nat) (y:Ta) (k:Int) (r:List (Int × Int)) (ra:Option Addr) (rc:Nat) (ast:Int) (l:List Ta) (sa:Option Addr) (sc:Nat) (mn mx:Int) (z:Bool) (ix:Int) (nm:ByteArray) (w:World) (hy:RT w (Fr B [] w) y) (hB:B≤w.heap.size) (hm:mx < 0) (h0:(mn==0)=true) :
  Calls Tryz.prog 75 #[y.val,(Ta.mk k r ra rc ast l sa sc mn mx z ix nm).val] w fun e w'=>∃ u:Ta,e=.returned u.val∧u.tr=repT y.tr 0 (-1) z∧RT w' (Fr B [] w') u∧Below w.heap.size w w':=by
 have hus:=us_start B y (Ta.mk k r ra rc ast l sa sc mn mx z ix nm) w hy hB rfl
 have hz:((((w.alloc (.cells y.vals.toArray 25)).alloc (.cells (Ta.mk k r ra rc ast l sa sc mn mx z ix nm).vals.toArray 25)).alloc (.cells #[.int .i64 0,.slice none 0 0,.int .i64 0,.slice none 0 0,.int .i64 0,.int .i64 0,.bool false,.int .i64 0,.string ⟨#[]⟩] 25)).alloc (.cells #[.slice none 0 0] 139)).cell? ⟨w.heap.size+1,6,none⟩=some (.bool z):=hus.tb.cell 6
 have HRE:=zzA (rep_any B ([w.heap.size+1+1]++(w.heap.size+1+1+1) :: (Value.slice none 0 0).ownBlock.toList) y (w.heap.size+1) 0 (-1) z _ hz hus.yt (zzU hB hus.below.size) (by have:=hus.row.blk.lt;intro x hx;simp [Value.ownBlock] at hx;omega))
 have HUS:=zzA hus
 clear hz hus hy
 cases y with
 | mk k' r' ra' rc' a' l' sa' sc' n' m' z' i' s' =>
 simp only [Ta.val,Ta.vals] at HRE HUS ⊢
 obtain ⟨y0,y1,y2,y3,y4,y5,y6,y7,y8⟩:=bc9 (HUS.out.yb)
 go_enter Tryz.func75,Tryz.ntmps75
 go_wp2_with fail
 refine HRE.out.mono ?_
 rintro e w5 ⟨v,rfl,htr,hrt,hb5⟩
 have HU5:=zzA (HUS.out.bel hb5)
 have HTR:=zzA htr
 have HRT:=zzA hrt
 clear hb5 htr hrt HRE HUS y0 y1 y2 y3 y4 y5 y6 y7 y8
 cases v with
 | mk k2 r2 ra2 rc2 a2 l2 sa2 sc2 n2 m2 z2 i2 s2 =>
 obtain ⟨q0,q1,q2,q3,q4,q5,q6,q7,q8⟩:=bc9 (HU5.out.res)
 have fz0:=HU5.out.res.frozen 0
 have fz1:=HU5.out.res.frozen 1
 have fz2:=HU5.out.res.frozen 2
 have fz3:=HU5.out.res.frozen 3
 have fz4:=HU5.out.res.frozen 4
 have fz5:=HU5.out.res.frozen 5
 have fz6:=HU5.out.res.frozen 6
 have fz7:=HU5.out.res.frozen 7
 have fz8:=HU5.out.res.frozen 8
 have fz9:=HU5.out.res.lt
 simp only []
 go_wp2_with fail
 refine zzm (node_ret rfl _ _ (w.heap.size+1+1) (Ta.mk k2 r2 ra2 rc2 a2 l2 sa2 sc2 n2 m2 z2 i2 s2) rfl (show Blk (((((((((w5.setCell ⟨w.heap.size+1+1,0,none⟩ (.int .i64 k2)).setCell ⟨w.heap.size+1+1,1,none⟩ (.slice ra2 r2.length rc2)).setCell ⟨w.heap.size+1+1,2,none⟩ (.int .i64 a2)).setCell ⟨w.heap.size+1+1,3,none⟩ (.slice sa2 l2.length sc2)).setCell ⟨w.heap.size+1+1,4,none⟩ (.int .i64 n2)).setCell ⟨w.heap.size+1+1,5,none⟩ (.int .i64 m2)).setCell ⟨w.heap.size+1+1,6,none⟩ (.bool z2)).setCell ⟨w.heap.size+1+1,7,none⟩ (.int .i64 i2)).setCell ⟨w.heap.size+1+1,8,none⟩ (.string s2)) (w.heap.size+1+1) 25 (Ta.mk k2 r2 ra2 rc2 a2 l2 sa2 sc2 n2 m2 z2 i2 s2).vals from (((((((((HU5.out.res.set_ 0 (.int .i64 k2)).set_ 1 (.slice ra2 r2.length rc2)).set_ 2 (.int .i64 a2)).set_ 3 (.slice sa2 l2.length sc2)).set_ 4 (.int .i64 n2)).set_ 5 (.int .i64 m2)).set_ 6 (.bool z2)).set_ 7 (.int .i64 i2)).set_ 8 (.string s2)))) rfl ?_
 refine ⟨Ta.mk k2 r2 ra2 rc2 a2 l2 sa2 sc2 n2 m2 z2 i2 s2,rfl,HTR.out,HRT.out.fr_kept (kept9 w5 (w.heap.size+1+1) 0 (.int .i64 k2) (.slice ra2 r2.length rc2) (.int .i64 a2) (.slice sa2 l2.length sc2) (.int .i64 n2) (.int .i64 m2) (.bool z2) (.int .i64 i2) (.string s2)) (by simp) (by simp),zyH HU5.out.below (kept9 w5 (w.heap.size+1+1) 0 (.int .i64 k2) (.slice ra2 r2.length rc2) (.int .i64 a2) (.slice sa2 l2.length sc2) (.int .i64 n2) (.int .i64 m2) (.bool z2) (.int .i64 i2) (.string s2)) (by intro b hb;simp at hb;omega) HU5.out.below.size⟩
theorem unfT_plus (B:Nat) (y:Ta) (k:Int) (r:List (Int × Int)) (ra:Option Addr) (rc:Nat) (ast:Int) (l:List Ta) (sa:Option Addr) (sc:Nat) (mn mx:Int) (z:Bool) (ix:Int) (nm:ByteArray) (w:World) (hy:RT w (Fr B [] w) y) (hB:B≤w.heap.size) (hal:allB y.tr=true) (hm:mx < 0) (h0:(mn==0)=false) (hmn:0≤mn) (hmn1:mn≤1000) (hsz:((mn - 1).toNat+1)*(putT y.tr).length≤1000000) :
  Calls Tryz.prog 75 #[y.val,(Ta.mk k r ra rc ast l sa sc mn mx z ix nm).val] w fun e w'=>∃ u:Ta,e=.returned u.val∧u.tr=row (repsT (putT y.tr) (mn - 1).toNat++putT (repT y.tr 1 (-1) z))∧RT w' (Fr B [] w') u∧Below w.heap.size w w':=by
 have hus:=us_start B y (Ta.mk k r ra rc ast l sa sc mn mx z ix nm) w hy hB rfl
 obtain ⟨nn,hnn⟩:∃ nn:Nat,mn - 1=(nn:Int):=⟨(mn - 1).toNat,by simp at h0;omega⟩
 have hnt:(mn - 1).toNat=nn:=by omega
 rw [hnt] at hsz ⊢
 clear hnt hy
 have HUS:=zzA hus
 clear hus
 cases y with
 | mk k' r' ra' rc' a' l' sa' sc' n' m' z' i' s' =>
 simp only [Ta.vals] at HUS
 simp only [Ta.val,Ta.vals]
 have t4:((((w.alloc (.cells #[.int .i64 k',.slice ra' r'.length rc',.int .i64 a',.slice sa' l'.length sc',.int .i64 n',.int .i64 m',.bool z',.int .i64 i',.string s'] 25)).alloc (.cells #[.int .i64 k,.slice ra r.length rc,.int .i64 ast,.slice sa l.length sc,.int .i64 mn,.int .i64 mx,.bool z,.int .i64 ix,.string nm] 25)).alloc (.cells #[.int .i64 0,.slice none 0 0,.int .i64 0,.slice none 0 0,.int .i64 0,.int .i64 0,.bool false,.int .i64 0,.string ⟨#[]⟩] 25)).alloc (.cells #[.slice none 0 0] 139)).cell? ⟨w.heap.size+1,4,none⟩=some (.int .i64 mn):=HUS.out.tb.cell 4
 have t5:((((w.alloc (.cells #[.int .i64 k',.slice ra' r'.length rc',.int .i64 a',.slice sa' l'.length sc',.int .i64 n',.int .i64 m',.bool z',.int .i64 i',.string s'] 25)).alloc (.cells #[.int .i64 k,.slice ra r.length rc,.int .i64 ast,.slice sa l.length sc,.int .i64 mn,.int .i64 mx,.bool z,.int .i64 ix,.string nm] 25)).alloc (.cells #[.int .i64 0,.slice none 0 0,.int .i64 0,.slice none 0 0,.int .i64 0,.int .i64 0,.bool false,.int .i64 0,.string ⟨#[]⟩] 25)).alloc (.cells #[.slice none 0 0] 139)).cell? ⟨w.heap.size+1,5,none⟩=some (.int .i64 mx):=HUS.out.tb.cell 5
 go_enter Tryz.func75,Tryz.ntmps75
 go_wp2_with fail
 generalize ((((w.alloc (.cells #[.int .i64 k',.slice ra' r'.length rc',.int .i64 a',.slice sa' l'.length sc',.int .i64 n',.int .i64 m',.bool z',.int .i64 i',.string s'] 25)).alloc (.cells #[.int .i64 k,.slice ra r.length rc,.int .i64 ast,.slice sa l.length sc,.int .i64 mn,.int .i64 mx,.bool z,.int .i64 ix,.string nm] 25)).alloc (.cells #[.int .i64 0,.slice none 0 0,.int .i64 0,.slice none 0 0,.int .i64 0,.int .i64 0,.bool false,.int .i64 0,.string ⟨#[]⟩] 25)).alloc (.cells #[.slice none 0 0] 139))=w4 at *
 have HAL:=zzA hal
 have HSZ:=zzA hsz
 clear t4 t5 hal hsz
 go_loopw [56] (fun iv wr=>∃ (j:Nat) (v:Value) (us:List Ta),j≤nn∧iv=.int .i64 (j:Int)∧trs us=repsT (putT (Ta.mk k' r' ra' rc' a' l' sa' sc' n' m' z' i' s').tr) j∧US B [] w (Ta.mk k' r' ra' rc' a' l' sa' sc' n' m' z' i' s') (Ta.mk k r ra rc ast l sa sc mn mx z ix nm) v us wr) (fun iv _=>nn - (intOf iv).toNat)
 case atStart=>exact ⟨0,_,[],zzZ _,rfl,rfl,HUS.out⟩
 case round =>
  obtain ⟨j,v,us,hj,rfl,htu,hr⟩:=hrel
  have HR:=zzA hr
  have HTU:=zzA htu
  have HLN:=zzA (show us.length≤1000000 from by rw [←trs_length,HTU.out,reps_len];exact zzU (Nat.mul_le_mul_right _ (show j≤nn+1 by omega)) HSZ.out)
  clear hr htu
  by_cases hlt:j < nn
  ·have hlt2:(j:Int) < mn - 1:=by omega
   obtain ⟨y0,y1,y2,y3,y4,y5,y6,y7,y8⟩:=bc9 (HR.out.yb)
   go_wp2_with fail
   refine (copied_any (Ta.mk k' r' ra' rc' a' l' sa' sc' n' m' z' i' s') (Fr B (((w.heap.size+1+1) :: [])++(w.heap.size+1+1+1) :: v.ownBlock.toList) wr) wr HR.out.yt (fun b hb=>hb.2.1)).mono ?_
   rintro e w5 ⟨u5,rfl,htr5,hrt5,hb5⟩
   have HR5:=zzA (HR.out.bel hb5)
   have HRT5:=zzA (hrt5.fr_in (B:=B) (L:=((w.heap.size+1+1) :: [])++(w.heap.size+1+1+1) :: v.ownBlock.toList) (zzU hB HR.out.below.size) (us_lt HR.out))
   have HTR:=zzA htr5
   have HB5:=zzA hb5
   clear htr5 hrt5 hb5
   clear y0 y1 y2 y3 y4 y5 y6 y7 y8
   simp only []
   go_wp2_with fail
   refine (put_any B (w.heap.size+1+1+1+1) ((w.heap.size+1+1) :: []) (w.heap.size+1+1+1) v us u5 w5 HR5.out.row HRT5.out HR5.out.row.blk.lt (zzU HLN.out (by decide)) (fun hk=>by rw [Ta.subs_len,HTR.out];rw [HTR.out] at hk;have:=subs_pos HAL.out hk;omega)).mono ?_
   rintro e w6 ⟨rfl,v6,hrow6,hk6,hv6⟩
   have HR6:=zzA (HR5.out.put hrow6 hk6 hv6)
   clear hrow6 hk6 hv6
   simp only []
   go_wp2_with fail
   go_roundw
   case rel=>exact ⟨j+1,_,_,by omega,by go_num,by rw [trs_append,putA_tr,HTU.out,HTR.out,reps_succ],HR6.out⟩
   case measure=>simp [intOf];omega
  ·obtain rfl:j=nn:=by omega
   have hlt2:¬((j:Int) < mn - 1):=by omega
   obtain ⟨y0,y1,y2,y3,y4,y5,y6,y7,y8⟩:=bc9 (HR.out.yb)
   have t6:wr.cell? ⟨w.heap.size+1,6,none⟩=some (.bool z):=HR.out.tb.cell 6
   go_wp2_with fail
   have hz:wr.cell? ⟨w.heap.size+1,6,none⟩=some (.bool z):=HR.out.tb.cell 6
   refine (rep_any B ([w.heap.size+1+1]++(w.heap.size+1+1+1) :: v.ownBlock.toList) (Ta.mk k' r' ra' rc' a' l' sa' sc' n' m' z' i' s') (w.heap.size+1) 1 (-1) z wr hz HR.out.yt (zzU hB HR.out.below.size) (us_lt HR.out)).mono ?_
   rintro e w5 ⟨v5,rfl,htr5,hrt5,hb5⟩
   have HR5:=zzA (HR.out.bel hb5)
   have HRT5:=zzA hrt5
   have HTR:=zzA htr5
   clear htr5 hrt5 hb5 y0 y1 y2 y3 y4 y5 y6 y7 y8 t6 hz
   simp only []
   go_wp2_with fail
   refine (put_any B (w.heap.size+1+1+1+1) [w.heap.size+1+1] (w.heap.size+1+1+1) v us v5 w5 HR5.out.row HRT5.out HR5.out.row.blk.lt (zzU HLN.out (by decide)) (fun hk=>by rw [HTR.out] at hk;simp [repT,Tr.kind] at hk)).mono ?_
   rintro e w6 ⟨rfl,v6,hrow6,hk6,hv6⟩
   have HR6:=zzA (HR5.out.put hrow6 hk6 hv6)
   clear hrow6 hk6 hv6
   simp only []
   go_wp2_with fail
   have hl6:(us++putA v5).length≤1048576:=by rw [zzG,putA_len,HTR.out];have:=HLN.out;simp [putT,repT,Tr.kind];omega
   refine (tree_any B (w.heap.size+1+1+1+1) [w.heap.size+1+1] (w.heap.size+1+1+1) v6 (us++putA v5) w6 HR6.out.row (by omega) (by intro x hx;simp at hx;omega) hl6).mono ?_
   rintro e w7 ⟨u7,rfl,htr7,hrt7,hb7⟩
   have HR7:=zzA (HR6.out.bel hb7)
   have HRT7:=zzA hrt7
   have HTR7:=zzA (htr7.trans (by rw [trs_append,putA_tr,HTR.out,HTU.out]))
   clear hrt7 htr7 hb7 hl6
   cases u7 with
   | mk k2 r2 ra2 rc2 a2 l2 sa2 sc2 n2 m2 z2 i2 s2 =>
   obtain ⟨q0,q1,q2,q3,q4,q5,q6,q7,q8⟩:=bc9 (HR7.out.res)
   have fz0:=HR7.out.res.frozen 0
   have fz1:=HR7.out.res.frozen 1
   have fz2:=HR7.out.res.frozen 2
   have fz3:=HR7.out.res.frozen 3
   have fz4:=HR7.out.res.frozen 4
   have fz5:=HR7.out.res.frozen 5
   have fz6:=HR7.out.res.frozen 6
   have fz7:=HR7.out.res.frozen 7
   have fz8:=HR7.out.res.frozen 8
   have fz9:=HR7.out.res.lt
   simp only [Ta.val,Ta.vals]
   go_wp2_with fail
   refine zzm (node_ret rfl _ _ (w.heap.size+1+1) (Ta.mk k2 r2 ra2 rc2 a2 l2 sa2 sc2 n2 m2 z2 i2 s2) rfl (show Blk (((((((((w7.setCell ⟨w.heap.size+1+1,0,none⟩ (.int .i64 k2)).setCell ⟨w.heap.size+1+1,1,none⟩ (.slice ra2 r2.length rc2)).setCell ⟨w.heap.size+1+1,2,none⟩ (.int .i64 a2)).setCell ⟨w.heap.size+1+1,3,none⟩ (.slice sa2 l2.length sc2)).setCell ⟨w.heap.size+1+1,4,none⟩ (.int .i64 n2)).setCell ⟨w.heap.size+1+1,5,none⟩ (.int .i64 m2)).setCell ⟨w.heap.size+1+1,6,none⟩ (.bool z2)).setCell ⟨w.heap.size+1+1,7,none⟩ (.int .i64 i2)).setCell ⟨w.heap.size+1+1,8,none⟩ (.string s2)) (w.heap.size+1+1) 25 (Ta.mk k2 r2 ra2 rc2 a2 l2 sa2 sc2 n2 m2 z2 i2 s2).vals from (((((((((HR7.out.res.set_ 0 (.int .i64 k2)).set_ 1 (.slice ra2 r2.length rc2)).set_ 2 (.int .i64 a2)).set_ 3 (.slice sa2 l2.length sc2)).set_ 4 (.int .i64 n2)).set_ 5 (.int .i64 m2)).set_ 6 (.bool z2)).set_ 7 (.int .i64 i2)).set_ 8 (.string s2)))) rfl ?_
   refine ⟨Ta.mk k2 r2 ra2 rc2 a2 l2 sa2 sc2 n2 m2 z2 i2 s2,rfl,HTR7.out,HRT7.out.fr_kept (kept9 w7 (w.heap.size+1+1) 0 (.int .i64 k2) (.slice ra2 r2.length rc2) (.int .i64 a2) (.slice sa2 l2.length sc2) (.int .i64 n2) (.int .i64 m2) (.bool z2) (.int .i64 i2) (.string s2)) (by simp) (by simp),zyH HR7.out.below (kept9 w7 (w.heap.size+1+1) 0 (.int .i64 k2) (.slice ra2 r2.length rc2) (.int .i64 a2) (.slice sa2 l2.length sc2) (.int .i64 n2) (.int .i64 m2) (.bool z2) (.int .i64 i2) (.string s2)) (by intro b hb;simp at hb;omega) HR7.out.below.size⟩
theorem unfT_opt (B:Nat) (y:Ta) (k:Int) (r:List (Int × Int)) (ra:Option Addr) (rc:Nat) (ast:Int) (l:List Ta) (sa:Option Addr) (sc:Nat) (mn mx:Int) (z:Bool) (ix:Int) (nm:ByteArray) (w:World) (hy:RT w (Fr B [] w) y) (hB:B≤w.heap.size) (hal:allB y.tr=true) (hm:0≤mx) (hmx:mx≤1000) (hmn:0≤mn) (hmn1:mn≤1000) (hsz:(mn.toNat+1)*(putT y.tr).length≤1000000) :
  Calls Tryz.prog 75 #[y.val,(Ta.mk k r ra rc ast l sa sc mn mx z ix nm).val] w fun e w'=>∃ u:Ta,e=.returned u.val∧u.tr=row (repsT (putT y.tr) mn.toNat++putT (optS y.tr z (mx - mn).toNat))∧RT w' (Fr B [] w') u∧Below w.heap.size w w':=by
 have hus:=us_start B y (Ta.mk k r ra rc ast l sa sc mn mx z ix nm) w hy hB rfl
 obtain ⟨nn,hnn⟩:∃ nn:Nat,mn=(nn:Int):=⟨mn.toNat,by omega⟩
 have hnt:mn.toNat=nn:=by omega
 rw [hnt] at hsz ⊢
 obtain ⟨n2,hn2⟩:∃ n2:Nat,(mx - mn).toNat=n2:=⟨_,rfl⟩
 rw [hn2]
 have hm0:¬mx < 0:=by omega
 have hdf:∀ j:Nat,((j:Int) < mx - mn) ↔ j < n2:=fun j=>by omega
 have HDF:=zzA hdf
 have HN2:=zzA hn2
 have HNN:=zzA hnn
 clear hnt hy hdf hn2 hnn
 have HUS:=zzA hus
 clear hus
 cases y with
 | mk k' r' ra' rc' a' l' sa' sc' n' m' z' i' s' =>
 simp only [Ta.vals] at HUS
 simp only [Ta.val,Ta.vals]
 have t4:((((w.alloc (.cells #[.int .i64 k',.slice ra' r'.length rc',.int .i64 a',.slice sa' l'.length sc',.int .i64 n',.int .i64 m',.bool z',.int .i64 i',.string s'] 25)).alloc (.cells #[.int .i64 k,.slice ra r.length rc,.int .i64 ast,.slice sa l.length sc,.int .i64 mn,.int .i64 mx,.bool z,.int .i64 ix,.string nm] 25)).alloc (.cells #[.int .i64 0,.slice none 0 0,.int .i64 0,.slice none 0 0,.int .i64 0,.int .i64 0,.bool false,.int .i64 0,.string ⟨#[]⟩] 25)).alloc (.cells #[.slice none 0 0] 139)).cell? ⟨w.heap.size+1,4,none⟩=some (.int .i64 mn):=HUS.out.tb.cell 4
 have t5:((((w.alloc (.cells #[.int .i64 k',.slice ra' r'.length rc',.int .i64 a',.slice sa' l'.length sc',.int .i64 n',.int .i64 m',.bool z',.int .i64 i',.string s'] 25)).alloc (.cells #[.int .i64 k,.slice ra r.length rc,.int .i64 ast,.slice sa l.length sc,.int .i64 mn,.int .i64 mx,.bool z,.int .i64 ix,.string nm] 25)).alloc (.cells #[.int .i64 0,.slice none 0 0,.int .i64 0,.slice none 0 0,.int .i64 0,.int .i64 0,.bool false,.int .i64 0,.string ⟨#[]⟩] 25)).alloc (.cells #[.slice none 0 0] 139)).cell? ⟨w.heap.size+1,5,none⟩=some (.int .i64 mx):=HUS.out.tb.cell 5
 go_enter Tryz.func75,Tryz.ntmps75
 go_wp2_with fail
 generalize ((((w.alloc (.cells #[.int .i64 k',.slice ra' r'.length rc',.int .i64 a',.slice sa' l'.length sc',.int .i64 n',.int .i64 m',.bool z',.int .i64 i',.string s'] 25)).alloc (.cells #[.int .i64 k,.slice ra r.length rc,.int .i64 ast,.slice sa l.length sc,.int .i64 mn,.int .i64 mx,.bool z,.int .i64 ix,.string nm] 25)).alloc (.cells #[.int .i64 0,.slice none 0 0,.int .i64 0,.slice none 0 0,.int .i64 0,.int .i64 0,.bool false,.int .i64 0,.string ⟨#[]⟩] 25)).alloc (.cells #[.slice none 0 0] 139))=w4 at *
 have HAL:=zzA hal
 have HSZ:=zzA hsz
 clear t4 t5 hal hsz
 go_loopw [12] (fun iv wr=>∃ (j:Nat) (v:Value) (us:List Ta),j≤nn∧iv=.int .i64 (j:Int)∧trs us=repsT (putT (Ta.mk k' r' ra' rc' a' l' sa' sc' n' m' z' i' s').tr) j∧US B [] w (Ta.mk k' r' ra' rc' a' l' sa' sc' n' m' z' i' s') (Ta.mk k r ra rc ast l sa sc mn mx z ix nm) v us wr) (fun iv _=>nn - (intOf iv).toNat)
 case atStart=>exact ⟨0,_,[],zzZ _,rfl,rfl,HUS.out⟩
 case round =>
  obtain ⟨j,v,us,hj,rfl,htu,hr⟩:=hrel
  have HR:=zzA hr
  have HTU:=zzA htu
  have HLN:=zzA (show us.length≤1000000 from by rw [←trs_length,HTU.out,reps_len];exact zzU (Nat.mul_le_mul_right _ (show j≤nn+1 by omega)) HSZ.out)
  clear hr htu
  by_cases hlt:j < nn
  ·have hlt2:(j:Int) < mn:=by have:=HNN.out;omega
   obtain ⟨y0,y1,y2,y3,y4,y5,y6,y7,y8⟩:=bc9 (HR.out.yb)
   go_wp2_with fail
   refine (copied_any (Ta.mk k' r' ra' rc' a' l' sa' sc' n' m' z' i' s') (Fr B (((w.heap.size+1+1) :: [])++(w.heap.size+1+1+1) :: v.ownBlock.toList) wr) wr HR.out.yt (fun b hb=>hb.2.1)).mono ?_
   rintro e w5 ⟨u5,rfl,htr5,hrt5,hb5⟩
   have HR5:=zzA (HR.out.bel hb5)
   have HRT5:=zzA (hrt5.fr_in (B:=B) (L:=((w.heap.size+1+1) :: [])++(w.heap.size+1+1+1) :: v.ownBlock.toList) (zzU hB HR.out.below.size) (us_lt HR.out))
   have HTR:=zzA htr5
   have HB5:=zzA hb5
   clear htr5 hrt5 hb5
   clear y0 y1 y2 y3 y4 y5 y6 y7 y8
   simp only []
   go_wp2_with fail
   refine (put_any B (w.heap.size+1+1+1+1) ((w.heap.size+1+1) :: []) (w.heap.size+1+1+1) v us u5 w5 HR5.out.row HRT5.out HR5.out.row.blk.lt (zzU HLN.out (by decide)) (fun hk=>by rw [Ta.subs_len,HTR.out];rw [HTR.out] at hk;have:=subs_pos HAL.out hk;omega)).mono ?_
   rintro e w6 ⟨rfl,v6,hrow6,hk6,hv6⟩
   have HR6:=zzA (HR5.out.put hrow6 hk6 hv6)
   clear hrow6 hk6 hv6
   simp only []
   go_wp2_with fail
   go_roundw
   case rel=>exact ⟨j+1,_,_,by omega,by go_num,by rw [trs_append,putA_tr,HTU.out,HTR.out,reps_succ],HR6.out⟩
   case measure=>simp [intOf];omega
  ·obtain rfl:j=nn:=by omega
   have hlt2:¬((j:Int) < mn):=by have:=HNN.out;omega
   have hba:Below wr.heap.size wr (wr.alloc (.cells #[.int .i64 1,.slice none 0 0,.int .i64 0,.slice none 0 0,.int .i64 0,.int .i64 0,.bool false,.int .i64 0,.string ⟨#[]⟩] 25)):=(zzb _ _).alloc (zzF _) _
   have HO:=zzA (HR.out.more (g:=wr.heap.size) hba (zzF _) (by simp))
   have HOB:=zzA (zyI wr 25 [.int .i64 1,.slice none 0 0,.int .i64 0,.slice none 0 0,.int .i64 0,.int .i64 0,.bool false,.int .i64 0,.string ⟨#[]⟩])
   have HB3:=zzA HR.out.row.blk.lt
   have t4:(wr.alloc (.cells #[.int .i64 1,.slice none 0 0,.int .i64 0,.slice none 0 0,.int .i64 0,.int .i64 0,.bool false,.int .i64 0,.string ⟨#[]⟩] 25)).cell? ⟨w.heap.size+1,4,none⟩=some (.int .i64 mn):=HO.out.tb.cell 4
   have t5:(wr.alloc (.cells #[.int .i64 1,.slice none 0 0,.int .i64 0,.slice none 0 0,.int .i64 0,.int .i64 0,.bool false,.int .i64 0,.string ⟨#[]⟩] 25)).cell? ⟨w.heap.size+1,5,none⟩=some (.int .i64 mx):=HO.out.tb.cell 5
   clear hba
   go_wp2_with fail
   clear t4 t5
   generalize wr.alloc (.cells #[.int .i64 1,.slice none 0 0,.int .i64 0,.slice none 0 0,.int .i64 0,.int .i64 0,.bool false,.int .i64 0,.string ⟨#[]⟩] 25)=wo at *
   clear HR hlt hlt2 hj
   generalize wr.heap.size=ob at *
   have hoB:=(HO.out.xs ob (by simp)).1
   go_loopw [24] (fun iv wq=>∃ (jj:Nat) (o:Ta),jj≤n2∧iv=.int .i64 (jj:Int)∧o.tr=optS (Ta.mk k' r' ra' rc' a' l' sa' sc' n' m' z' i' s').tr z jj∧Blk wq ob 25 o.vals∧RT wq (Fr B ([w.heap.size+1+1,ob]++(w.heap.size+1+1+1) :: v.ownBlock.toList) wq) o∧US B [ob] w (Ta.mk k' r' ra' rc' a' l' sa' sc' n' m' z' i' s') (Ta.mk k r ra rc ast l sa sc mn mx z ix nm) v us wq) (fun iv _=>n2 - (intOf iv).toNat)
   case atStart=>exact ⟨0,Ta.mk 1 [] none 0 0 [] none 0 0 0 false 0 ⟨#[]⟩,zzZ _,rfl,rfl,HOB.out,RT.of ⟨RdA.none_,by simp,by simp,by decide⟩ RdA.none_ (by simp),HO.out⟩
   case round =>
    obtain ⟨jj,o,hi2,rfl,hot,hob,hor,hu⟩:=hrel
    have HU:=zzA hu
    have HOT:=zzA hot
    have HOBK:=zzA hob
    have HOR:=zzA hor
    clear hu hot hob hor
    by_cases hlt:jj < n2
    ·have hlt2:(jj:Int) < mx - mn:=(HDF.out jj).2 hlt
     have hba:Below wr.heap.size wr (wr.alloc (.cells #[.slice none 0 0] 139)):=(zzb _ _).alloc (zzF _) _
     have HUI:=zzA (HU.out.bel hba)
     have HRI:=zzA (show RowV B (wr.heap.size+1) ([w.heap.size+1+1,ob]++(w.heap.size+1+1+1) :: v.ownBlock.toList) wr.heap.size 139 f1 (.slice none 0 0) [] (wr.alloc (.cells #[.slice none 0 0] 139)) from ⟨zyI wr 139 [.slice none 0 0],World.ownsRow_nil _ _ _ _,by simp,by simp [Value.ownBlock]⟩)
     have HBI:=zzA hba
     have hsi:(wr.alloc (.cells #[.slice none 0 0] 139)).heap.size=wr.heap.size+1:=by simp
     have HXL:=zzA (us_lt HU.out)
     clear hba
     obtain ⟨y0,y1,y2,y3,y4,y5,y6,y7,y8⟩:=bc9 (HUI.out.yb)
     go_wp2_with fail
     generalize (wr.alloc (.cells #[.slice none 0 0] 139))=wi at *
     refine (copied_any (Ta.mk k' r' ra' rc' a' l' sa' sc' n' m' z' i' s') (Fr B ([w.heap.size+1+1,ob]++(w.heap.size+1+1+1) :: v.ownBlock.toList) wi) wi HUI.out.yt (fun b hb=>hb.2.1)).mono ?_
     rintro e w5 ⟨u5,rfl,htr5,hrt5,hb5⟩
     have hs5:=hb5.size
     have hwB:=zzU hB HU.out.below.size
     have HRT5:=zzA (hrt5.fr_in (B:=B) (L:=([w.heap.size+1+1,ob]++(w.heap.size+1+1+1) :: v.ownBlock.toList)++wr.heap.size :: (Value.slice none 0 0).ownBlock.toList) (by omega) (by intro x hx;rcases zzM.1 hx with hx | hx;have:=HXL.out x hx;omega;simp [Value.ownBlock] at hx;omega))
     have HR5:=zzA (show RowV B (wr.heap.size+1) ([w.heap.size+1+1,ob]++(w.heap.size+1+1+1) :: v.ownBlock.toList) wr.heap.size 139 f1 (.slice none 0 0) [] w5 from ⟨HRI.out.blk.below hb5 HRI.out.blk.lt,World.ownsRow_nil _ _ _ _,by simp,by simp [Value.ownBlock]⟩)
     have HB5:=zzA (HBI.out.trans (hb5.mono (by omega)))
     have HTR5:=zzA htr5
     clear hb5 hrt5 htr5 HUI HRI HBI y0 y1 y2 y3 y4 y5 y6 y7 y8
     simp only []
     go_wp2_with fail
     refine (put_any B (wr.heap.size+1) ([w.heap.size+1+1,ob]++(w.heap.size+1+1+1) :: v.ownBlock.toList) wr.heap.size (.slice none 0 0) [] u5 w5 HR5.out HRT5.out HR5.out.blk.lt (by simp) (fun hk=>by rw [Ta.subs_len,HTR5.out];rw [HTR5.out] at hk;have:=subs_pos HAL.out hk;omega)).mono ?_
     rintro e w6 ⟨rfl,v6,hrow6,hk6,hv6⟩
     rw [zzn] at hrow6
     have hb6:Below wr.heap.size wr w6:=zyH HB5.out hk6 (by intro x hx;simp [Value.ownBlock] at hx;omega) HB5.out.size
     have hown6:∀ g,v6.ownBlock=some g→wr.heap.size < g:=fun g hg=>(hrow6.own.lt g hg).1
     have HOR6:=zzA (HOR.out.fr_kept (L':=([w.heap.size+1+1,ob]++(w.heap.size+1+1+1) :: v.ownBlock.toList)++wr.heap.size :: v6.ownBlock.toList) (Kept.of_below (L:=[]) hb6) (by simp) (by intro x hx;rcases zzM.1 hx with hx | hx;exact .inl hx;rcases zzN.1 hx with rfl | hx;exact .inr (.inl (zzF _));exact .inr (.inl (zzo (hown6 x (by simpa using hx))))))
     have HOB6:=zzA (HOBK.out.below hb6 HOBK.out.lt)
     have HR6:=zzA hrow6
     have HB6:=zzA hb6
     have HOWN6:=zzA hown6
     have HL6:=zzA (show (putA u5).length≤1000000 from by rw [putA_len,HTR5.out];have h1:=HSZ.out;have h2:(putT (Ta.mk k' r' ra' rc' a' l' sa' sc' n' m' z' i' s').tr).length≤(j+1)*(putT (Ta.mk k' r' ra' rc' a' l' sa' sc' n' m' z' i' s').tr).length:=Nat.le_mul_of_pos_left _ (by omega);omega)
     clear hrow6 hk6 hv6 hb6 hown6 HR5 HRT5 HB5
     cases o with
     | mk k3 r3 ra3 rc3 a3 l3 sa3 sc3 n3 m3 z3 i3 s3 =>
     simp only [Ta.vals] at HOB6
     obtain ⟨o0,o1,o2,o3,o4,o5,o6,o7,o8⟩:=bc9 (HOB6.out)
     simp only []
     go_wp2_with fail
     refine (put_any B (wr.heap.size+1) ([w.heap.size+1+1,ob]++(w.heap.size+1+1+1) :: v.ownBlock.toList) wr.heap.size v6 (putA u5) (Ta.mk k3 r3 ra3 rc3 a3 l3 sa3 sc3 n3 m3 z3 i3 s3) w6 HR6.out HOR6.out HR6.out.blk.lt (zzU HL6.out (by decide)) (fun hk=>by rw [HOT.out] at hk;cases jj <;> simp [optS,emptyT,repT,Tr.kind] at hk)).mono ?_
     rintro e w7 ⟨rfl,v7,hrow7,hk7,hv7⟩
     have hb7:Below wr.heap.size wr w7:=zyH HB6.out hk7 (by intro x hx;rcases zzN.1 hx with rfl | hx;exact zzF _;exact zzo (HOWN6.out x (by simpa using hx))) HB6.out.size
     have HR7:=zzA hrow7
     have HB7:=zzA hb7
     have HL7:=zzA (show (putA u5++putA (Ta.mk k3 r3 ra3 rc3 a3 l3 sa3 sc3 n3 m3 z3 i3 s3)).length≤1048576 from by rw [zzG];have h1:=HL6.out;have h2:(putA (Ta.mk k3 r3 ra3 rc3 a3 l3 sa3 sc3 n3 m3 z3 i3 s3)).length≤1:=(by rw [putA_len,HOT.out];cases jj <;> simp [optS,emptyT,repT,Tr.kind,putT]);omega)
     clear hrow7 hk7 hv7 hb7 HR6 HB6 HOB6 HOR6 o0 o1 o2 o3 o4 o5 o6 o7 o8
     simp only []
     go_wp2_with fail
     refine (tree_any B (wr.heap.size+1) ([w.heap.size+1+1,ob]++(w.heap.size+1+1+1) :: v.ownBlock.toList) wr.heap.size v7 (putA u5++putA (Ta.mk k3 r3 ra3 rc3 a3 l3 sa3 sc3 n3 m3 z3 i3 s3)) w7 HR7.out (by omega) (by intro x hx;have:=HXL.out x hx;omega) HL7.out).mono ?_
     rintro e w8 ⟨u8,rfl,htr8,hrt8,hb8⟩
     have hlt7:=HR7.out.blk.lt
     have hlt78:=hb8.size
     have hb78:=HB7.out.trans (hb8.mono HB7.out.size)
     have HB8:=zzA hb78
     have HU8:=zzA (HU.out.bel hb78)
     have HRT8:=zzA hrt8
     have HTR8:=zzA (htr8.trans (by rw [trs_append,putA_tr,putA_tr,HTR5.out,HOT.out]))
     clear htr8 hrt8 hb8 hb78 HR7 HB7
     simp only []
     go_wp2_with fail
     have hz:w8.cell? ⟨w.heap.size+1,6,none⟩=some (.bool z):=HU8.out.tb.cell 6
     have hlt8:=HB8.out.size
     refine (rep_any B (([w.heap.size+1+1,ob]++(w.heap.size+1+1+1) :: v.ownBlock.toList)++[wr.heap.size]) u8 (w.heap.size+1) 0 1 z w8 hz HRT8.out (by omega) (by have h0:=(show wr.heap.size < w8.heap.size from by omega);intro x hx;rcases zzM.1 hx with hx | hx;have:=HXL.out x hx;omega;simp at hx;omega)).mono ?_
     rintro e w9 ⟨v9,rfl,htr9,hrt9,hb9⟩
     have hb89:=HB8.out.trans (hb9.mono HB8.out.size)
     have HU9:=zzA (HU.out.bel hb89)
     have HOB9:=zzA (HOBK.out.below hb89 HOBK.out.lt)
     have HRT9:=zzA hrt9
     have HTR9:=zzA (htr9.trans (by rw [HTR8.out]))
     clear htr9 hrt9 hb9 hb89 hz HU8 HRT8
     simp only [Ta.vals] at HOB9
     cases v9 with
     | mk k2 r2 ra2 rc2 a2 l2 sa2 sc2 n2 m2 z2 i2 s2 =>
     obtain ⟨q0,q1,q2,q3,q4,q5,q6,q7,q8⟩:=bc9 (HOB9.out)
     have fz0:=HOB9.out.frozen 0
     have fz1:=HOB9.out.frozen 1
     have fz2:=HOB9.out.frozen 2
     have fz3:=HOB9.out.frozen 3
     have fz4:=HOB9.out.frozen 4
     have fz5:=HOB9.out.frozen 5
     have fz6:=HOB9.out.frozen 6
     have fz7:=HOB9.out.frozen 7
     have fz8:=HOB9.out.frozen 8
     have fz9:=HOB9.out.lt
     simp only [Ta.val,Ta.vals]
     go_wp2_with fail
     go_roundw
     case rel =>
      have hk10:=kept9 w9 ob 0 (.int .i64 k2) (.slice ra2 r2.length rc2) (.int .i64 a2) (.slice sa2 l2.length sc2) (.int .i64 n2) (.int .i64 m2) (.bool z2) (.int .i64 i2) (.string s2)
      refine ⟨jj+1,Ta.mk k2 r2 ra2 rc2 a2 l2 sa2 sc2 n2 m2 z2 i2 s2,by omega,by go_num,HTR9.out,(show Blk (((((((((w9.setCell ⟨ob,0,none⟩ (.int .i64 k2)).setCell ⟨ob,1,none⟩ (.slice ra2 r2.length rc2)).setCell ⟨ob,2,none⟩ (.int .i64 a2)).setCell ⟨ob,3,none⟩ (.slice sa2 l2.length sc2)).setCell ⟨ob,4,none⟩ (.int .i64 n2)).setCell ⟨ob,5,none⟩ (.int .i64 m2)).setCell ⟨ob,6,none⟩ (.bool z2)).setCell ⟨ob,7,none⟩ (.int .i64 i2)).setCell ⟨ob,8,none⟩ (.string s2)) ob 25 (Ta.mk k2 r2 ra2 rc2 a2 l2 sa2 sc2 n2 m2 z2 i2 s2).vals from (((((((((HOB9.out.set_ 0 (.int .i64 k2)).set_ 1 (.slice ra2 r2.length rc2)).set_ 2 (.int .i64 a2)).set_ 3 (.slice sa2 l2.length sc2)).set_ 4 (.int .i64 n2)).set_ 5 (.int .i64 m2)).set_ 6 (.bool z2)).set_ 7 (.int .i64 i2)).set_ 8 (.string s2))),HRT9.out.fr_kept hk10 (by simp) (fun x hx=>.inl (zzW _ hx)),HU9.out.setb (by simp) hk10⟩
     case measure=>simp [intOf];omega

    ·have hlt2:¬((jj:Int) < mx - mn):=fun h=>hlt ((HDF.out jj).1 h)
     obtain rfl:jj=n2:=by omega
     have HUL:=zzA HU.out.less
     have HOL:=zzA (HOR.out.fr_less (L':=[w.heap.size+1+1]++(w.heap.size+1+1+1) :: v.ownBlock.toList) (by intro x hx;simp at hx ⊢;rcases hx with h | h;exact .inl h;exact .inr (.inr h)))
     cases o with
     | mk k3 r3 ra3 rc3 a3 l3 sa3 sc3 n3 m3 z3 i3 s3 =>
     simp only [Ta.vals] at HOBK
     obtain ⟨o0,o1,o2,o3,o4,o5,o6,o7,o8⟩:=bc9 (HOBK.out)
     go_wp2_with fail
     refine (put_any B (w.heap.size+1+1+1+1) [w.heap.size+1+1] (w.heap.size+1+1+1) v us (Ta.mk k3 r3 ra3 rc3 a3 l3 sa3 sc3 n3 m3 z3 i3 s3) wr HUL.out.row HOL.out HUL.out.row.blk.lt (zzU HLN.out (by decide)) (fun hk=>by rw [HOT.out] at hk;cases jj <;> simp [optS,emptyT,repT,Tr.kind] at hk)).mono ?_
     rintro e w6 ⟨rfl,v6,hrow6,hk6,hv6⟩
     have HR6:=zzA (HUL.out.put hrow6 hk6 hv6)
     have hl6:(us++putA (Ta.mk k3 r3 ra3 rc3 a3 l3 sa3 sc3 n3 m3 z3 i3 s3)).length≤1048576:=by rw [zzG];have h1:=HLN.out;have h2:(putA (Ta.mk k3 r3 ra3 rc3 a3 l3 sa3 sc3 n3 m3 z3 i3 s3)).length≤1:=(by rw [putA_len,HOT.out];cases jj <;> simp [optS,emptyT,repT,Tr.kind,putT]);omega
     clear hrow6 hk6 hv6 o0 o1 o2 o3 o4 o5 o6 o7 o8
     simp only []
     go_wp2_with fail
     refine (tree_any B (w.heap.size+1+1+1+1) [w.heap.size+1+1] (w.heap.size+1+1+1) v6 (us++putA (Ta.mk k3 r3 ra3 rc3 a3 l3 sa3 sc3 n3 m3 z3 i3 s3)) w6 HR6.out.row (by omega) (by intro x hx;simp at hx;omega) hl6).mono ?_
     rintro e w7 ⟨u7,rfl,htr7,hrt7,hb7⟩
     have HR7:=zzA (HR6.out.bel hb7)
     have HRT7:=zzA hrt7
     have HTR7:=zzA (htr7.trans (by rw [trs_append,putA_tr,HOT.out,HTU.out]))
     clear hrt7 htr7 hb7 hl6
     cases u7 with
     | mk k2 r2 ra2 rc2 a2 l2 sa2 sc2 n2 m2 z2 i2 s2 =>
     obtain ⟨q0,q1,q2,q3,q4,q5,q6,q7,q8⟩:=bc9 (HR7.out.res)
     have fz0:=HR7.out.res.frozen 0
     have fz1:=HR7.out.res.frozen 1
     have fz2:=HR7.out.res.frozen 2
     have fz3:=HR7.out.res.frozen 3
     have fz4:=HR7.out.res.frozen 4
     have fz5:=HR7.out.res.frozen 5
     have fz6:=HR7.out.res.frozen 6
     have fz7:=HR7.out.res.frozen 7
     have fz8:=HR7.out.res.frozen 8
     have fz9:=HR7.out.res.lt
     simp only [Ta.val,Ta.vals]
     go_wp2_with fail
     refine zzm (node_ret rfl _ _ (w.heap.size+1+1) (Ta.mk k2 r2 ra2 rc2 a2 l2 sa2 sc2 n2 m2 z2 i2 s2) rfl (show Blk (((((((((w7.setCell ⟨w.heap.size+1+1,0,none⟩ (.int .i64 k2)).setCell ⟨w.heap.size+1+1,1,none⟩ (.slice ra2 r2.length rc2)).setCell ⟨w.heap.size+1+1,2,none⟩ (.int .i64 a2)).setCell ⟨w.heap.size+1+1,3,none⟩ (.slice sa2 l2.length sc2)).setCell ⟨w.heap.size+1+1,4,none⟩ (.int .i64 n2)).setCell ⟨w.heap.size+1+1,5,none⟩ (.int .i64 m2)).setCell ⟨w.heap.size+1+1,6,none⟩ (.bool z2)).setCell ⟨w.heap.size+1+1,7,none⟩ (.int .i64 i2)).setCell ⟨w.heap.size+1+1,8,none⟩ (.string s2)) (w.heap.size+1+1) 25 (Ta.mk k2 r2 ra2 rc2 a2 l2 sa2 sc2 n2 m2 z2 i2 s2).vals from (((((((((HR7.out.res.set_ 0 (.int .i64 k2)).set_ 1 (.slice ra2 r2.length rc2)).set_ 2 (.int .i64 a2)).set_ 3 (.slice sa2 l2.length sc2)).set_ 4 (.int .i64 n2)).set_ 5 (.int .i64 m2)).set_ 6 (.bool z2)).set_ 7 (.int .i64 i2)).set_ 8 (.string s2)))) rfl ?_
     refine ⟨Ta.mk k2 r2 ra2 rc2 a2 l2 sa2 sc2 n2 m2 z2 i2 s2,rfl,HTR7.out,HRT7.out.fr_kept (kept9 w7 (w.heap.size+1+1) 0 (.int .i64 k2) (.slice ra2 r2.length rc2) (.int .i64 a2) (.slice sa2 l2.length sc2) (.int .i64 n2) (.int .i64 m2) (.bool z2) (.int .i64 i2) (.string s2)) (by simp) (by simp),zyH HR7.out.below (kept9 w7 (w.heap.size+1+1) 0 (.int .i64 k2) (.slice ra2 r2.length rc2) (.int .i64 a2) (.slice sa2 l2.length sc2) (.int .i64 n2) (.int .i64 m2) (.bool z2) (.int .i64 i2) (.string s2)) (by intro b hb;simp at hb;omega) HR7.out.below.size⟩
theorem unfoldedT_any (B:Nat) (y t:Ta) (w:World) (hy:RT w (Fr B [] w) y) (hB:B≤w.heap.size) (hal:allB y.tr=true) (h0:0≤t.tr.mn) (h1:t.tr.mn≤1000) (hx:t.tr.mx≤1000) (hsy:size y.tr≤200000) (hs:size (unfoldS y.tr t.tr.mn t.tr.mx t.tr.lz)≤200000) :
  Calls Tryz.prog 75 #[y.val,t.val] w fun e w'=>∃ u:Ta,e=.returned u.val∧u.tr=unfoldS y.tr t.tr.mn t.tr.mx t.tr.lz∧RT w' (Fr B [] w') u∧Below w.heap.size w w':=by
 have hp:(putT y.tr).length≤200000:=by
  have:=size_pos y.tr
  unfold putT
  by_cases k1:y.tr.kind=1
  ·rw [if_pos k1];simp
  ·by_cases k4:y.tr.kind=4
   ·rw [if_neg k1,if_pos k4]
    have h2:=len_sizes y.tr.subs
    have h3:sizes y.tr.subs+1=size y.tr:=by cases y.tr with | mk k r a l n m z i s=>rw [size];rfl
    omega
   ·rw [if_neg k1,if_neg k4];simp
 cases t with
 | mk k r ra rc ast l sa sc mn mx z ix nm =>
 simp only [Ta.tr,Tr.mn,Tr.mx,Tr.lz] at h0 h1 hx hs ⊢
 unfold unfoldS at hs ⊢
 by_cases hm:mx < 0
 ·by_cases hz:mn=0
  ·rw [if_pos ⟨hm,hz⟩]
   exact unfT_star B y k r ra rc ast l sa sc mn mx z ix nm w hy hB hm (by rw [hz];rfl)
  ·rw [if_neg (fun h=>hz h.2),if_pos hm] at hs ⊢
   refine unfT_plus B y k r ra rc ast l sa sc mn mx z ix nm w hy hB hal hm (zzh.2 hz) h0 h1 ?_
   have h2:=row_len (repsT (putT y.tr) (mn - 1).toNat++putT (repT y.tr 1 (-1) z))
   rw [zzG,reps_len] at h2
   have h3:size (row (repsT (putT y.tr) (mn - 1).toNat++putT (repT y.tr 1 (-1) z)))≤200000:=hs
   rw [Nat.add_mul,Nat.one_mul]
   omega
 ·rw [if_neg (fun h=>hm h.1),if_neg hm] at hs ⊢
  refine unfT_opt B y k r ra rc ast l sa sc mn mx z ix nm w hy hB hal (by omega) hx h0 h1 ?_
  have h2:=row_len (repsT (putT y.tr) mn.toNat++putT (optS y.tr z (mx - mn).toNat))
  rw [zzG,reps_len] at h2
  have h3:size (row (repsT (putT y.tr) mn.toNat++putT (optS y.tr z (mx - mn).toNat)))≤200000:=hs
  rw [Nat.add_mul,Nat.one_mul]
  omega
end Go.Proofs.YtgkclnmmjedmkaaGreat
