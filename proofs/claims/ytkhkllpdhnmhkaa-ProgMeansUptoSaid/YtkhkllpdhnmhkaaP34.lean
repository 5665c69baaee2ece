/- simplify.unfolded's closure repeat. -/
import Derived.Test.YtkhkllpdhnmhkaaP04
import Derived.Test.YtkhkllpdhnmhkaaP12
import Derived.Test.YtkhkllpdhnmhkaaP13
namespace Go.Proofs.Ytkhkllpdhnmhkaa
open Go.RowKit Tr
set_option maxRecDepth 100000 in
set_option maxHeartbeats 2000000 in
theorem rep_any (B:Nat) (L:List Nat) (u:Ta) (b:Nat) (mn mx:Int) (z:Bool) (w:World) (hz:w.cell? ⟨b,6,none⟩=some (.bool z)) (hu:RT w (Fr B L w) u) (hB:B≤w.heap.size) (hL:∀ x∈L,x < w.heap.size) :
  Calls Try.prog 75 #[u.val,.int .i64 mn,.int .i64 mx,.pointer (some ⟨b,0,none⟩)] w fun e w'=>∃ v:Ta,e=.returned v.val∧v.tr=repT u.tr mn mx z∧RT w' (Fr B L w') v∧Below w.heap.size w w':=by
 have hb2:=two_below w (.cells u.vals.toArray 25) (.cells #[.int .i64 0,.slice none 0 0,.int .i64 0,.slice none 0 0,.int .i64 0,.int .i64 0,.bool false,.int .i64 0,.string ⟨#[]⟩] 25)
 have hbl:=World.block_lt_of_cell? w _ hz
 have hz2:((w.alloc (.cells u.vals.toArray 25)).alloc (.cells #[.int .i64 0,.slice none 0 0,.int .i64 0,.slice none 0 0,.int .i64 0,.int .i64 0,.bool false,.int .i64 0,.string ⟨#[]⟩] 25)).cell? ⟨b,6,none⟩=some (.bool z):=(hb2.cell (p:=⟨b,6,none⟩) hbl).trans hz
 have HU:=zzA hu
 have HB2:=zzA hb2
 have hbl2:b < w.heap.size:=hbl
 clear hu hb2 hz hbl
 cases u with
 | mk k' r' ra' rc' a' l' sa' sc' n' m' z' i' s' =>
 simp only [Ta.val,Ta.vals] at hz2 HB2 ⊢
 go_enter Try.func75,Try.ntmps75
 go_wp2_with fail
 have hb3:Below w.heap.size w (((w.alloc (.cells #[.int .i64 k',.slice ra' r'.length rc',.int .i64 a',.slice sa' l'.length sc',.int .i64 n',.int .i64 m',.bool z',.int .i64 i',.string s'] 25)).alloc (.cells #[.int .i64 6,.slice none 0 0,.int .i64 0,.slice (some ⟨w.heap.size+1+1,0,none⟩) 1 1,.int .i64 mn,.int .i64 mx,.bool z,.int .i64 0,.string ⟨#[]⟩] 25)).alloc (.cells #[.int .i64 k',.slice ra' r'.length rc',.int .i64 a',.slice sa' l'.length sc',.int .i64 n',.int .i64 m',.bool z',.int .i64 i',.string s'] 25)):=(two_below w _ _).alloc (by simp;omega) _
 have hv:Blk (((w.alloc (.cells #[.int .i64 k',.slice ra' r'.length rc',.int .i64 a',.slice sa' l'.length sc',.int .i64 n',.int .i64 m',.bool z',.int .i64 i',.string s'] 25)).alloc (.cells #[.int .i64 6,.slice none 0 0,.int .i64 0,.slice (some ⟨w.heap.size+1+1,0,none⟩) 1 1,.int .i64 mn,.int .i64 mx,.bool z,.int .i64 0,.string ⟨#[]⟩] 25)).alloc (.cells #[.int .i64 k',.slice ra' r'.length rc',.int .i64 a',.slice sa' l'.length sc',.int .i64 n',.int .i64 m',.bool z',.int .i64 i',.string s'] 25)) (w.heap.size+1) 25 [.int .i64 6,.slice none 0 0,.int .i64 0,.slice (some ⟨w.heap.size+1+1,0,none⟩) 1 1,.int .i64 mn,.int .i64 mx,.bool z,.int .i64 0,.string ⟨#[]⟩]:=(two_blk w (.cells #[.int .i64 k',.slice ra' r'.length rc',.int .i64 a',.slice sa' l'.length sc',.int .i64 n',.int .i64 m',.bool z',.int .i64 i',.string s'] 25) 25 [.int .i64 6,.slice none 0 0,.int .i64 0,.slice (some ⟨w.heap.size+1+1,0,none⟩) 1 1,.int .i64 mn,.int .i64 mx,.bool z,.int .i64 0,.string ⟨#[]⟩]).alloc _
 have hs:Blk (((w.alloc (.cells #[.int .i64 k',.slice ra' r'.length rc',.int .i64 a',.slice sa' l'.length sc',.int .i64 n',.int .i64 m',.bool z',.int .i64 i',.string s'] 25)).alloc (.cells #[.int .i64 6,.slice none 0 0,.int .i64 0,.slice (some ⟨w.heap.size+1+1,0,none⟩) 1 1,.int .i64 mn,.int .i64 mx,.bool z,.int .i64 0,.string ⟨#[]⟩] 25)).alloc (.cells #[.int .i64 k',.slice ra' r'.length rc',.int .i64 a',.slice sa' l'.length sc',.int .i64 n',.int .i64 m',.bool z',.int .i64 i',.string s'] 25)) (w.heap.size+1+1) 25 [.int .i64 k',.slice ra' r'.length rc',.int .i64 a',.slice sa' l'.length sc',.int .i64 n',.int .i64 m',.bool z',.int .i64 i',.string s']:=by
  have:=Blk.new ((w.alloc (.cells #[.int .i64 k',.slice ra' r'.length rc',.int .i64 a',.slice sa' l'.length sc',.int .i64 n',.int .i64 m',.bool z',.int .i64 i',.string s'] 25)).alloc (.cells #[.int .i64 6,.slice none 0 0,.int .i64 0,.slice (some ⟨w.heap.size+1+1,0,none⟩) 1 1,.int .i64 mn,.int .i64 mx,.bool z,.int .i64 0,.string ⟨#[]⟩] 25)) 25 [.int .i64 k',.slice ra' r'.length rc',.int .i64 a',.slice sa' l'.length sc',.int .i64 n',.int .i64 m',.bool z',.int .i64 i',.string s']
  rwa [show ((w.alloc (.cells #[.int .i64 k',.slice ra' r'.length rc',.int .i64 a',.slice sa' l'.length sc',.int .i64 n',.int .i64 m',.bool z',.int .i64 i',.string s'] 25)).alloc (.cells #[.int .i64 6,.slice none 0 0,.int .i64 0,.slice (some ⟨w.heap.size+1+1,0,none⟩) 1 1,.int .i64 mn,.int .i64 mx,.bool z,.int .i64 0,.string ⟨#[]⟩] 25)).heap.size=w.heap.size+1+1 from by simp] at this
 generalize ((w.alloc (.cells #[.int .i64 k',.slice ra' r'.length rc',.int .i64 a',.slice sa' l'.length sc',.int .i64 n',.int .i64 m',.bool z',.int .i64 i',.string s'] 25)).alloc (.cells #[.int .i64 6,.slice none 0 0,.int .i64 0,.slice (some ⟨w.heap.size+1+1,0,none⟩) 1 1,.int .i64 mn,.int .i64 mx,.bool z,.int .i64 0,.string ⟨#[]⟩] 25)).alloc (.cells #[.int .i64 k',.slice ra' r'.length rc',.int .i64 a',.slice sa' l'.length sc',.int .i64 n',.int .i64 m',.bool z',.int .i64 i',.string s'] 25)=wf at *
 refine bodyPost_ret (node_ret rfl _ _ (w.heap.size+1) (Ta.mk 6 [] none 0 0 [Ta.mk k' r' ra' rc' a' l' sa' sc' n' m' z' i' s'] (some ⟨w.heap.size+1+1,0,none⟩) 1 mn mx z 0 ⟨#[]⟩) rfl hv) rfl ?_
 refine ⟨_,rfl,rfl,RT.of ⟨RdA.none_,by simp,by simp,by decide⟩ ?_ ?_,hb3⟩
 ·refine ⟨zzF _,by decide,rfl,(fun h=>by cases h),fun _=>⟨w.heap.size+1+1,0,rfl,⟨by omega,hs.lt,fun hm=>by have:=hL _ hm;omega⟩,fun j v hj=>?_⟩⟩
  rw [Nat.zero_add,hs.cell]
  simpa [rowT,Ta.vals] using hj
 ·intro v hv
  simp only [zzE] at hv
  subst hv
  exact HU.out.fr_below hb3
end Go.Proofs.Ytkhkllpdhnmhkaa
namespace Go.Proofs.Ytkhkllpdhnmhkaa
open Go.RowKit Tr
def repsT (p:List Tr.Tr) (j:Nat):List Tr.Tr:=(List.replicate j p).flatten
theorem reps_zero (p:List Tr.Tr):repsT p 0=[]:=rfl
theorem reps_succ (p:List Tr.Tr) (j:Nat):repsT p (j+1)=repsT p j++p:=by
 unfold repsT
 rw [List.replicate_succ',List.flatten_append]
 simp
theorem reps_len (p:List Tr.Tr) (j:Nat):(repsT p j).length=j*p.length:=by
 induction j with
 | zero=>simp [reps_zero]
 | succ j ih=>rw [reps_succ,zzG,ih,Nat.succ_mul]
theorem len_sizes (l:List Tr.Tr):l.length≤sizes l:=by
 induction l with
 | nil=>simp
 | cons t l ih=>have:=size_pos t;rw [sizes,zzO];omega
theorem row_len (l:List Tr.Tr):l.length≤size (row l):=by
 match l with
 | []=>simp
 | [x]=>simp [row];exact size_pos x
 | x :: y :: l =>
  have:=len_sizes (x :: y :: l)
  rw [show row (x :: y :: l)=catT (x :: y :: l) from rfl,catT,size]
  omega
theorem subs_pos {t:Tr.Tr} (h:allB t=true) (hk:t.kind=4):2≤t.subs.length:=by
 cases kinds h with
 | cat l hc hs=>exact hc
 | empty=>simp [emptyT,Tr.kind] at hk
 | cls r hr=>simp [Tr.kind] at hk
 | ass a ha=>simp [Tr.kind] at hk
 | alt l hc hs=>simp [altT,Tr.kind] at hk
 | rep x n m z hx h0 hb hm=>simp [repT,Tr.kind] at hk
 | group x i s hx h0 hb hm=>simp [groupT,Tr.kind] at hk
theorem Ta.subs_len (t:Ta):t.subs.length=t.tr.subs.length:=by rw [Ta.tr_subs,zzP]
theorem putA_len (t:Ta):(putA t).length=(putT t.tr).length:=by rw [←putA_tr,trs_length]
theorem trs_append (a b:List Ta):trs (a++b)=trs a++trs b:=by rw [trs_map,trs_map,trs_map,zzT]
structure US (B:Nat) (X:List Nat) (w:World) (y t:Ta) (v:Value) (us:List Ta) (wr:World):Prop where
 below:Below w.heap.size w wr
 yb:Blk wr w.heap.size 25 y.vals
 tb:Blk wr (w.heap.size+1) 25 t.vals
 res:Blk wr (w.heap.size+1+1) 25 [.int .i64 0,.slice none 0 0,.int .i64 0,.slice none 0 0,.int .i64 0,.int .i64 0,.bool false,.int .i64 0,.string ⟨#[]⟩]
 row:RowV B (w.heap.size+1+1+1+1) ((w.heap.size+1+1) :: X) (w.heap.size+1+1+1) 108 f1 v us wr
 yt:RT wr (Fr B (((w.heap.size+1+1) :: X)++(w.heap.size+1+1+1) :: v.ownBlock.toList) wr) y
 xs:∀ x∈X,w.heap.size+1+1+1 < x∧x < wr.heap.size∧v.ownBlock≠some x
section
variable {B:Nat} {X:List Nat} {w:World} {y t:Ta} {v:Value} {us:List Ta} {wr wq:World}
theorem US.own_ge (h:US B X w y t v us wr) (g:Nat) (hg:v.ownBlock=some g):w.heap.size+1+1+1 < g∧g < wr.heap.size:=by
 have:=h.row.own.lt g hg;omega
theorem US.bel (h:US B X w y t v us wr) (hb:Below wr.heap.size wr wq):US B X w y t v us wq :=
 ⟨h.below.trans (hb.mono h.below.size),h.yb.below hb h.yb.lt,h.tb.below hb h.tb.lt,h.res.below hb h.res.lt,
  ⟨h.row.blk.below hb h.row.blk.lt,own_below h.row.own hb,fun u hu=>(h.row.els u hu).fr_below hb,h.row.sep⟩,h.yt.fr_below hb,fun x hx=>⟨(h.xs x hx).1,zzQ (h.xs x hx).2.1 hb.size,(h.xs x hx).2.2⟩⟩
theorem US.put (h:US B X w y t v us wr) {v':Value} {us':List Ta} (hr:RowV B (w.heap.size+1+1+1+1) ((w.heap.size+1+1) :: X) (w.heap.size+1+1+1) 108 f1 v' us' wq) (hk:Kept wr wq ((w.heap.size+1+1+1) :: v.ownBlock.toList)) (hv:v'.ownBlock=v.ownBlock∨∃ g,v'.ownBlock=some g∧wr.heap.size≤g):US B X w y t v' us' wq:=by
 have hB3:=h.row.blk.lt
 have hge:∀ x∈(w.heap.size+1+1+1) :: v.ownBlock.toList,w.heap.size+1+1 < x:=fun x hx=>by
  rcases zzN.1 hx with rfl | hx
  ·omega
  ·have:=h.own_ge x (by simpa using hx);omega
 refine ⟨Below.kept h.below hk (fun x hx=>by have:=hge x hx;omega) h.below.size,h.yb.kept hk (fun hm=>by have:=hge _ hm;omega),h.tb.kept hk (fun hm=>by have:=hge _ hm;omega),h.res.kept hk (fun hm=>by have:=hge _ hm;omega),hr,?_,?_⟩
 ·refine h.yt.fr_kept hk (fun x hx=>.inl (zzV _ hx)) fun x hx=>?_
  rcases zzM.1 hx with hx | hx
  ·exact .inl (zzW _ hx)
  ·rcases zzN.1 hx with rfl | hx
   ·exact .inl (by simp)
   ·rcases hv with e | ⟨g,e,hg⟩
    ·rw [e] at hx;exact .inl (zzV _ (zzI _ hx))
    ·rw [e] at hx
     simp at hx
     subst hx
     exact .inr (.inl hg)
 ·intro x hx
  obtain ⟨h1,h2,h3⟩:=h.xs x hx
  refine ⟨h1,zzQ h2 hk.size,?_⟩
  rcases hv with e | ⟨g,e,hg⟩
  ·rw [e];exact h3
  ·rw [e];intro e2;simp at e2;omega
theorem US.setb (h:US B X w y t v us wr) {g:Nat} (hg:g∈X) (hk:Kept wr wq [g]):US B X w y t v us wq:=by
 obtain ⟨h1,h2,h3⟩:=h.xs g hg
 have hM:∀ b∈[g],b∈((w.heap.size+1+1) :: X)++(w.heap.size+1+1+1) :: v.ownBlock.toList∨wr.heap.size≤b∨b < B:=fun b hb=>by
  simp at hb;subst hb;exact .inl (zzW _ (zzI _ hg))
 refine ⟨Below.kept h.below hk (fun x hx=>by simp at hx;omega) h.below.size,h.yb.kept hk (by simp;omega),h.tb.kept hk (by simp;omega),h.res.kept hk (by simp;omega),⟨h.row.blk.kept hk (by simp;omega),own_kept h.row.own hk (fun b hb hm=>by simp at hm;subst hm;exact h3 hb),fun u hu=>(h.row.els u hu).fr_kept hk hM (fun b hb=>.inl hb),h.row.sep⟩,h.yt.fr_kept hk hM (fun b hb=>.inl hb),fun x hx=>?_⟩
 obtain ⟨g1,g2,g3⟩:=h.xs x hx
 exact ⟨g1,zzQ g2 hk.size,g3⟩
theorem US.more (h:US B [] w y t v us wr) {g:Nat} (hb:Below wr.heap.size wr wq) (hg:wr.heap.size≤g) (hq:g < wq.heap.size):US B [g] w y t v us wq:=by
 have hq2:=h.bel hb
 have hB3:=h.row.blk.lt
 have hL:∀ b∈[w.heap.size+1+1,g]++(w.heap.size+1+1+1) :: v.ownBlock.toList,b∈[w.heap.size+1+1]++(w.heap.size+1+1+1) :: v.ownBlock.toList∨wr.heap.size≤b∨b < B:=fun b hb=>by
  rcases zzM.1 hb with hb | hb
  ·simp at hb
   rcases hb with rfl | rfl
   ·exact .inl (by simp)
   ·exact .inr (.inl hg)
  ·exact .inl (zzV _ hb)
 refine ⟨hq2.below,hq2.yb,hq2.tb,hq2.res,⟨hq2.row.blk,hq2.row.own,fun u hu=>(h.row.els u hu).fr_kept (Kept.of_below (L:=[]) hb) (by simp) hL,h.row.sep⟩,h.yt.fr_kept (Kept.of_below (L:=[]) hb) (by simp) hL,fun x hx=>?_⟩
 simp at hx
 subst hx
 refine ⟨by omega,hq,fun e=>?_⟩
 have:=h.own_ge x e
 omega
theorem US.less (h:US B X w y t v us wr):US B [] w y t v us wr :=
 ⟨h.below,h.yb,h.tb,h.res,⟨h.row.blk,h.row.own,fun u hu=>(h.row.els u hu).fr_less (fun b hb=>(by simp at hb ⊢;rcases hb with h | h;exact .inl h;exact .inr (.inr h))),h.row.sep⟩,h.yt.fr_less (fun b hb=>(by simp at hb ⊢;rcases hb with h | h;exact .inl h;exact .inr (.inr h))),by simp⟩
end
theorem us_lt {B:Nat} {X:List Nat} {w:World} {y t:Ta} {v:Value} {us:List Ta} {wr:World} (h:US B X w y t v us wr):∀ x∈((w.heap.size+1+1) :: X)++(w.heap.size+1+1+1) :: v.ownBlock.toList,x < wr.heap.size:=fun x hx=>by
 have hb:=h.row.blk.lt
 rcases zzM.1 hx with hx | hx
 ·rcases zzN.1 hx with rfl | hx
  ·omega
  ·exact (h.xs x hx).2.1
 ·rcases zzN.1 hx with rfl | hx
  ·exact hb
  ·exact (h.own_ge x (by simpa using hx)).2
theorem us_start (B:Nat) (y t:Ta) (w:World) (hy:RT w (Fr B [] w) y) (hB:B≤w.heap.size) {W:World} (hW:W=((((w.alloc (.cells y.vals.toArray 25)).alloc (.cells t.vals.toArray 25)).alloc (.cells #[.int .i64 0,.slice none 0 0,.int .i64 0,.slice none 0 0,.int .i64 0,.int .i64 0,.bool false,.int .i64 0,.string ⟨#[]⟩] 25)).alloc (.cells #[.slice none 0 0] 108))):US B [] w y t (.slice none 0 0) [] W:=by
 have e2:((w.alloc (.cells y.vals.toArray 25)).alloc (.cells t.vals.toArray 25)).heap.size=w.heap.size+1+1:=by simp
 have e3:(((w.alloc (.cells y.vals.toArray 25)).alloc (.cells t.vals.toArray 25)).alloc (.cells #[.int .i64 0,.slice none 0 0,.int .i64 0,.slice none 0 0,.int .i64 0,.int .i64 0,.bool false,.int .i64 0,.string ⟨#[]⟩] 25)).heap.size=w.heap.size+1+1+1:=by simp
 have hb3:Below w.heap.size w (((w.alloc (.cells y.vals.toArray 25)).alloc (.cells t.vals.toArray 25)).alloc (.cells #[.int .i64 0,.slice none 0 0,.int .i64 0,.slice none 0 0,.int .i64 0,.int .i64 0,.bool false,.int .i64 0,.string ⟨#[]⟩] 25)):=(two_below w _ _).alloc (by rw [e2];omega) _
 have hb:Below w.heap.size w W:=hW ▸ hb3.alloc (by rw [e3];omega) _
 have h2:=Blk.new ((w.alloc (.cells y.vals.toArray 25)).alloc (.cells t.vals.toArray 25)) 25 [.int .i64 0,.slice none 0 0,.int .i64 0,.slice none 0 0,.int .i64 0,.int .i64 0,.bool false,.int .i64 0,.string ⟨#[]⟩]
 rw [e2] at h2
 have h3:=Blk.new (((w.alloc (.cells y.vals.toArray 25)).alloc (.cells t.vals.toArray 25)).alloc (.cells #[.int .i64 0,.slice none 0 0,.int .i64 0,.slice none 0 0,.int .i64 0,.int .i64 0,.bool false,.int .i64 0,.string ⟨#[]⟩] 25)) 108 [.slice none 0 0]
 rw [e3] at h3
 refine ⟨hb,?_,?_,?_,⟨?_,World.ownsRow_nil _ _ _ _,by simp,by simp [Value.ownBlock]⟩,?_,by simp⟩
 ·rw [hW];exact (((Blk.new w 25 y.vals).alloc _).alloc _).alloc _
 ·rw [hW];exact ((two_blk w _ 25 t.vals).alloc _).alloc _
 ·rw [hW];exact h2.alloc _
 ·rw [hW];exact h3
 ·exact hy.fr_kept (Kept.of_below (L:=[]) hb) (by simp) (by simp [Value.ownBlock];omega)
end Go.Proofs.Ytkhkllpdhnmhkaa
namespace Go.Proofs.Ytkhkllpdhnmhkaa
open Go.RowKit Tr
set_option maxRecDepth 100000 in
set_option maxHeartbeats 2000000 in
theorem unfT_star (B:Nat) (y:Ta) (k:Int) (r:List (Int × Int)) (ra:Option Addr) (rc:Nat) (ast:Int) (l:List Ta) (sa:Option Addr) (sc:Nat) (mn mx:Int) (z:Bool) (ix:Int) (nm:ByteArray) (w:World) (hy:RT w (Fr B [] w) y) (hB:B≤w.heap.size) (hm:mx < 0) (h0:(mn==0)=true) :
  Calls Try.prog 59 #[y.val,(Ta.mk k r ra rc ast l sa sc mn mx z ix nm).val] w fun e w'=>∃ u:Ta,e=.returned u.val∧u.tr=repT y.tr 0 (-1) z∧RT w' (Fr B [] w') u∧Below w.heap.size w w':=by
 have hus:=us_start B y (Ta.mk k r ra rc ast l sa sc mn mx z ix nm) w hy hB rfl
 have hz:((((w.alloc (.cells y.vals.toArray 25)).alloc (.cells (Ta.mk k r ra rc ast l sa sc mn mx z ix nm).vals.toArray 25)).alloc (.cells #[.int .i64 0,.slice none 0 0,.int .i64 0,.slice none 0 0,.int .i64 0,.int .i64 0,.bool false,.int .i64 0,.string ⟨#[]⟩] 25)).alloc (.cells #[.slice none 0 0] 108)).cell? ⟨w.heap.size+1,6,none⟩=some (.bool z):=hus.tb.cell 6
 have HRE:=zzA (rep_any B ([w.heap.size+1+1]++(w.heap.size+1+1+1) :: (Value.slice none 0 0).ownBlock.toList) y (w.heap.size+1) 0 (-1) z _ hz hus.yt (zzU hB hus.below.size) (by have:=hus.row.blk.lt;intro x hx;simp [Value.ownBlock] at hx;omega))
 have HUS:=zzA hus
 clear hz hus hy
 cases y with
 | mk k' r' ra' rc' a' l' sa' sc' n' m' z' i' s' =>
 simp only [Ta.val,Ta.vals] at HRE HUS ⊢
 obtain ⟨y0,y1,y2,y3,y4,y5,y6,y7,y8⟩:=bc9 (HUS.out.yb)
 go_enter Try.func59,Try.ntmps59
 go_wp2_with fail
 refine HRE.out.mono ?_
 rintro e w5 ⟨v,rfl,htr,hrt,hb5⟩
 have HU5:=zzA (HUS.out.bel hb5)
 have HTR:=zzA htr
 have HRT:=zzA hrt
 clear hb5 htr hrt HRE HUS y0 y1 y2 y3 y4 y5 y6 y7 y8
 cases v with
 | mk k2 r2 ra2 rc2 a2 l2 sa2 sc2 n2 m2 z2 i2 s2 =>
 obtain ⟨q0,q1,q2,q3,q4,q5,q6,q7,q8⟩:=bc9 (HU5.out.res)
 have fz0:=HU5.out.res.frozen 0
 have fz1:=HU5.out.res.frozen 1
 have fz2:=HU5.out.res.frozen 2
 have fz3:=HU5.out.res.frozen 3
 have fz4:=HU5.out.res.frozen 4
 have fz5:=HU5.out.res.frozen 5
 have fz6:=HU5.out.res.frozen 6
 have fz7:=HU5.out.res.frozen 7
 have fz8:=HU5.out.res.frozen 8
 have fz9:=HU5.out.res.lt
 simp only []
 go_wp2_with fail
 refine bodyPost_ret (node_ret rfl _ _ (w.heap.size+1+1) (Ta.mk k2 r2 ra2 rc2 a2 l2 sa2 sc2 n2 m2 z2 i2 s2) rfl (show Blk (((((((((w5.setCell ⟨w.heap.size+1+1,0,none⟩ (.int .i64 k2)).setCell ⟨w.heap.size+1+1,1,none⟩ (.slice ra2 r2.length rc2)).setCell ⟨w.heap.size+1+1,2,none⟩ (.int .i64 a2)).setCell ⟨w.heap.size+1+1,3,none⟩ (.slice sa2 l2.length sc2)).setCell ⟨w.heap.size+1+1,4,none⟩ (.int .i64 n2)).setCell ⟨w.heap.size+1+1,5,none⟩ (.int .i64 m2)).setCell ⟨w.heap.size+1+1,6,none⟩ (.bool z2)).setCell ⟨w.heap.size+1+1,7,none⟩ (.int .i64 i2)).setCell ⟨w.heap.size+1+1,8,none⟩ (.string s2)) (w.heap.size+1+1) 25 (Ta.mk k2 r2 ra2 rc2 a2 l2 sa2 sc2 n2 m2 z2 i2 s2).vals from (((((((((HU5.out.res.set_ 0 (.int .i64 k2)).set_ 1 (.slice ra2 r2.length rc2)).set_ 2 (.int .i64 a2)).set_ 3 (.slice sa2 l2.length sc2)).set_ 4 (.int .i64 n2)).set_ 5 (.int .i64 m2)).set_ 6 (.bool z2)).set_ 7 (.int .i64 i2)).set_ 8 (.string s2)))) rfl ?_
 refine ⟨Ta.mk k2 r2 ra2 rc2 a2 l2 sa2 sc2 n2 m2 z2 i2 s2,rfl,HTR.out,HRT.out.fr_kept (kept9 w5 (w.heap.size+1+1) 0 (.int .i64 k2) (.slice ra2 r2.length rc2) (.int .i64 a2) (.slice sa2 l2.length sc2) (.int .i64 n2) (.int .i64 m2) (.bool z2) (.int .i64 i2) (.string s2)) (by simp) (by simp),Below.kept HU5.out.below (kept9 w5 (w.heap.size+1+1) 0 (.int .i64 k2) (.slice ra2 r2.length rc2) (.int .i64 a2) (.slice sa2 l2.length sc2) (.int .i64 n2) (.int .i64 m2) (.bool z2) (.int .i64 i2) (.string s2)) (by intro b hb;simp at hb;omega) HU5.out.below.size⟩
set_option maxRecDepth 100000 in
set_option maxHeartbeats 2000000 in
theorem unfT_plus (B:Nat) (y:Ta) (k:Int) (r:List (Int × Int)) (ra:Option Addr) (rc:Nat) (ast:Int) (l:List Ta) (sa:Option Addr) (sc:Nat) (mn mx:Int) (z:Bool) (ix:Int) (nm:ByteArray) (w:World) (hy:RT w (Fr B [] w) y) (hB:B≤w.heap.size) (hal:allB y.tr=true) (hm:mx < 0) (h0:(mn==0)=false) (hmn:0≤mn) (hmn1:mn≤1000) (hsz:((mn - 1).toNat+1)*(putT y.tr).length≤1000000) :
  Calls Try.prog 59 #[y.val,(Ta.mk k r ra rc ast l sa sc mn mx z ix nm).val] w fun e w'=>∃ u:Ta,e=.returned u.val∧u.tr=row (repsT (putT y.tr) (mn - 1).toNat++putT (repT y.tr 1 (-1) z))∧RT w' (Fr B [] w') u∧Below w.heap.size w w':=by
 have hus:=us_start B y (Ta.mk k r ra rc ast l sa sc mn mx z ix nm) w hy hB rfl
 obtain ⟨nn,hnn⟩:∃ nn:Nat,mn - 1=(nn:Int):=⟨(mn - 1).toNat,by simp at h0;omega⟩
 have hnt:(mn - 1).toNat=nn:=by omega
 rw [hnt] at hsz ⊢
 clear hnt hy
 have HUS:=zzA hus
 clear hus
 cases y with
 | mk k' r' ra' rc' a' l' sa' sc' n' m' z' i' s' =>
 simp only [Ta.vals] at HUS
 simp only [Ta.val,Ta.vals]
 have t4:((((w.alloc (.cells #[.int .i64 k',.slice ra' r'.length rc',.int .i64 a',.slice sa' l'.length sc',.int .i64 n',.int .i64 m',.bool z',.int .i64 i',.string s'] 25)).alloc (.cells #[.int .i64 k,.slice ra r.length rc,.int .i64 ast,.slice sa l.length sc,.int .i64 mn,.int .i64 mx,.bool z,.int .i64 ix,.string nm] 25)).alloc (.cells #[.int .i64 0,.slice none 0 0,.int .i64 0,.slice none 0 0,.int .i64 0,.int .i64 0,.bool false,.int .i64 0,.string ⟨#[]⟩] 25)).alloc (.cells #[.slice none 0 0] 108)).cell? ⟨w.heap.size+1,4,none⟩=some (.int .i64 mn):=HUS.out.tb.cell 4
 have t5:((((w.alloc (.cells #[.int .i64 k',.slice ra' r'.length rc',.int .i64 a',.slice sa' l'.length sc',.int .i64 n',.int .i64 m',.bool z',.int .i64 i',.string s'] 25)).alloc (.cells #[.int .i64 k,.slice ra r.length rc,.int .i64 ast,.slice sa l.length sc,.int .i64 mn,.int .i64 mx,.bool z,.int .i64 ix,.string nm] 25)).alloc (.cells #[.int .i64 0,.slice none 0 0,.int .i64 0,.slice none 0 0,.int .i64 0,.int .i64 0,.bool false,.int .i64 0,.string ⟨#[]⟩] 25)).alloc (.cells #[.slice none 0 0] 108)).cell? ⟨w.heap.size+1,5,none⟩=some (.int .i64 mx):=HUS.out.tb.cell 5
 go_enter Try.func59,Try.ntmps59
 go_wp2_with fail
 generalize ((((w.alloc (.cells #[.int .i64 k',.slice ra' r'.length rc',.int .i64 a',.slice sa' l'.length sc',.int .i64 n',.int .i64 m',.bool z',.int .i64 i',.string s'] 25)).alloc (.cells #[.int .i64 k,.slice ra r.length rc,.int .i64 ast,.slice sa l.length sc,.int .i64 mn,.int .i64 mx,.bool z,.int .i64 ix,.string nm] 25)).alloc (.cells #[.int .i64 0,.slice none 0 0,.int .i64 0,.slice none 0 0,.int .i64 0,.int .i64 0,.bool false,.int .i64 0,.string ⟨#[]⟩] 25)).alloc (.cells #[.slice none 0 0] 108))=w4 at *
 have HAL:=zzA hal
 have HSZ:=zzA hsz
 clear t4 t5 hal hsz
 go_loopw [56] (fun iv wr=>∃ (j:Nat) (v:Value) (us:List Ta),j≤nn∧iv=.int .i64 (j:Int)∧trs us=repsT (putT (Ta.mk k' r' ra' rc' a' l' sa' sc' n' m' z' i' s').tr) j∧US B [] w (Ta.mk k' r' ra' rc' a' l' sa' sc' n' m' z' i' s') (Ta.mk k r ra rc ast l sa sc mn mx z ix nm) v us wr) (fun iv _=>nn - (intOf iv).toNat)
 case atStart=>exact ⟨0,_,[],zzZ _,rfl,rfl,HUS.out⟩
 case round =>
  obtain ⟨j,v,us,hj,rfl,htu,hr⟩:=hrel
  have HR:=zzA hr
  have HTU:=zzA htu
  have HLN:=zzA (show us.length≤1000000 from by rw [←trs_length,HTU.out,reps_len];exact zzU (Nat.mul_le_mul_right _ (show j≤nn+1 by omega)) HSZ.out)
  clear hr htu
  by_cases hlt:j < nn
  ·have hlt2:(j:Int) < mn - 1:=by omega
   obtain ⟨y0,y1,y2,y3,y4,y5,y6,y7,y8⟩:=bc9 (HR.out.yb)
   go_wp2_with fail
   refine (copied_any (Ta.mk k' r' ra' rc' a' l' sa' sc' n' m' z' i' s') (Fr B (((w.heap.size+1+1) :: [])++(w.heap.size+1+1+1) :: v.ownBlock.toList) wr) wr HR.out.yt (fun b hb=>hb.2.1)).mono ?_
   rintro e w5 ⟨u5,rfl,htr5,hrt5,hb5⟩
   have HR5:=zzA (HR.out.bel hb5)
   have HRT5:=zzA (hrt5.fr_in (B:=B) (L:=((w.heap.size+1+1) :: [])++(w.heap.size+1+1+1) :: v.ownBlock.toList) (zzU hB HR.out.below.size) (us_lt HR.out))
   have HTR:=zzA htr5
   have HB5:=zzA hb5
   clear htr5 hrt5 hb5
   clear y0 y1 y2 y3 y4 y5 y6 y7 y8
   simp only []
   go_wp2_with fail
   refine (put_any B (w.heap.size+1+1+1+1) ((w.heap.size+1+1) :: []) (w.heap.size+1+1+1) v us u5 w5 HR5.out.row HRT5.out HR5.out.row.blk.lt (zzU HLN.out (by decide)) (fun hk=>by rw [Ta.subs_len,HTR.out];rw [HTR.out] at hk;have:=subs_pos HAL.out hk;omega)).mono ?_
   rintro e w6 ⟨rfl,v6,hrow6,hk6,hv6⟩
   have HR6:=zzA (HR5.out.put hrow6 hk6 hv6)
   clear hrow6 hk6 hv6
   simp only []
   go_wp2_with fail
   go_roundw
   case rel=>exact ⟨j+1,_,_,by omega,by go_num,by rw [trs_append,putA_tr,HTU.out,HTR.out,reps_succ],HR6.out⟩
   case measure=>simp [intOf];omega
  ·obtain rfl:j=nn:=by omega
   have hlt2:¬((j:Int) < mn - 1):=by omega
   obtain ⟨y0,y1,y2,y3,y4,y5,y6,y7,y8⟩:=bc9 (HR.out.yb)
   have t6:wr.cell? ⟨w.heap.size+1,6,none⟩=some (.bool z):=HR.out.tb.cell 6
   go_wp2_with fail
   have hz:wr.cell? ⟨w.heap.size+1,6,none⟩=some (.bool z):=HR.out.tb.cell 6
   refine (rep_any B ([w.heap.size+1+1]++(w.heap.size+1+1+1) :: v.ownBlock.toList) (Ta.mk k' r' ra' rc' a' l' sa' sc' n' m' z' i' s') (w.heap.size+1) 1 (-1) z wr hz HR.out.yt (zzU hB HR.out.below.size) (us_lt HR.out)).mono ?_
   rintro e w5 ⟨v5,rfl,htr5,hrt5,hb5⟩
   have HR5:=zzA (HR.out.bel hb5)
   have HRT5:=zzA hrt5
   have HTR:=zzA htr5
   clear htr5 hrt5 hb5 y0 y1 y2 y3 y4 y5 y6 y7 y8 t6 hz
   simp only []
   go_wp2_with fail
   refine (put_any B (w.heap.size+1+1+1+1) [w.heap.size+1+1] (w.heap.size+1+1+1) v us v5 w5 HR5.out.row HRT5.out HR5.out.row.blk.lt (zzU HLN.out (by decide)) (fun hk=>by rw [HTR.out] at hk;simp [repT,Tr.kind] at hk)).mono ?_
   rintro e w6 ⟨rfl,v6,hrow6,hk6,hv6⟩
   have HR6:=zzA (HR5.out.put hrow6 hk6 hv6)
   clear hrow6 hk6 hv6
   simp only []
   go_wp2_with fail
   have hl6:(us++putA v5).length≤1048576:=by rw [zzG,putA_len,HTR.out];have:=HLN.out;simp [putT,repT,Tr.kind];omega
   refine (tree_any B (w.heap.size+1+1+1+1) [w.heap.size+1+1] (w.heap.size+1+1+1) v6 (us++putA v5) w6 HR6.out.row (by omega) (by intro x hx;simp at hx;omega) hl6).mono ?_
   rintro e w7 ⟨u7,rfl,htr7,hrt7,hb7⟩
   have HR7:=zzA (HR6.out.bel hb7)
   have HRT7:=zzA hrt7
   have HTR7:=zzA (htr7.trans (by rw [trs_append,putA_tr,HTR.out,HTU.out]))
   clear hrt7 htr7 hb7 hl6
   cases u7 with
   | mk k2 r2 ra2 rc2 a2 l2 sa2 sc2 n2 m2 z2 i2 s2 =>
   obtain ⟨q0,q1,q2,q3,q4,q5,q6,q7,q8⟩:=bc9 (HR7.out.res)
   have fz0:=HR7.out.res.frozen 0
   have fz1:=HR7.out.res.frozen 1
   have fz2:=HR7.out.res.frozen 2
   have fz3:=HR7.out.res.frozen 3
   have fz4:=HR7.out.res.frozen 4
   have fz5:=HR7.out.res.frozen 5
   have fz6:=HR7.out.res.frozen 6
   have fz7:=HR7.out.res.frozen 7
   have fz8:=HR7.out.res.frozen 8
   have fz9:=HR7.out.res.lt
   simp only [Ta.val,Ta.vals]
   go_wp2_with fail
   refine bodyPost_ret (node_ret rfl _ _ (w.heap.size+1+1) (Ta.mk k2 r2 ra2 rc2 a2 l2 sa2 sc2 n2 m2 z2 i2 s2) rfl (show Blk (((((((((w7.setCell ⟨w.heap.size+1+1,0,none⟩ (.int .i64 k2)).setCell ⟨w.heap.size+1+1,1,none⟩ (.slice ra2 r2.length rc2)).setCell ⟨w.heap.size+1+1,2,none⟩ (.int .i64 a2)).setCell ⟨w.heap.size+1+1,3,none⟩ (.slice sa2 l2.length sc2)).setCell ⟨w.heap.size+1+1,4,none⟩ (.int .i64 n2)).setCell ⟨w.heap.size+1+1,5,none⟩ (.int .i64 m2)).setCell ⟨w.heap.size+1+1,6,none⟩ (.bool z2)).setCell ⟨w.heap.size+1+1,7,none⟩ (.int .i64 i2)).setCell ⟨w.heap.size+1+1,8,none⟩ (.string s2)) (w.heap.size+1+1) 25 (Ta.mk k2 r2 ra2 rc2 a2 l2 sa2 sc2 n2 m2 z2 i2 s2).vals from (((((((((HR7.out.res.set_ 0 (.int .i64 k2)).set_ 1 (.slice ra2 r2.length rc2)).set_ 2 (.int .i64 a2)).set_ 3 (.slice sa2 l2.length sc2)).set_ 4 (.int .i64 n2)).set_ 5 (.int .i64 m2)).set_ 6 (.bool z2)).set_ 7 (.int .i64 i2)).set_ 8 (.string s2)))) rfl ?_
   refine ⟨Ta.mk k2 r2 ra2 rc2 a2 l2 sa2 sc2 n2 m2 z2 i2 s2,rfl,HTR7.out,HRT7.out.fr_kept (kept9 w7 (w.heap.size+1+1) 0 (.int .i64 k2) (.slice ra2 r2.length rc2) (.int .i64 a2) (.slice sa2 l2.length sc2) (.int .i64 n2) (.int .i64 m2) (.bool z2) (.int .i64 i2) (.string s2)) (by simp) (by simp),Below.kept HR7.out.below (kept9 w7 (w.heap.size+1+1) 0 (.int .i64 k2) (.slice ra2 r2.length rc2) (.int .i64 a2) (.slice sa2 l2.length sc2) (.int .i64 n2) (.int .i64 m2) (.bool z2) (.int .i64 i2) (.string s2)) (by intro b hb;simp at hb;omega) HR7.out.below.size⟩
end Go.Proofs.Ytkhkllpdhnmhkaa
namespace Go.Proofs.Ytkhkllpdhnmhkaa
open Go.RowKit Mach Tr
variable {X:List Nat}
set_option maxRecDepth 100000 in
set_option maxHeartbeats 2000000 in
theorem layCat_any (k:Int) (r:List (Int × Int)) (ra:Option Addr) (rc:Nat) (ast:Int) (l:List Ta) (sa:Option Addr) (sc:Nat) (mn mx:Int) (z:Bool) (ix:Int) (nm:ByteArray) (ih:∀ u∈l,LY u) (S:Nat→Prop) (w:World) (rb:Nat) (v:Value) (L:List InV) (h:RT w S (.mk k r ra rc ast l sa sc mn mx z ix nm)) (hS:∀ b,S b→b < rb) (hr:RowI X rb 59 v L w) (hl:L.length+lensS (trs l)≤1000000000) :
  Calls Try.prog 66 #[(.pointer (some ⟨rb,0,none⟩)),(Ta.mk k r ra rc ast l sa sc mn mx z ix nm).val] w fun e w'=>e=.returned (.tuple #[])∧∃ v' L',LP X rb v w L (lensS (trs l)) (codesS (trs l) L.length) v' L' w':=by
 have hb0:Below w.heap.size w (w.alloc (.cells #[.int .i64 k,.slice ra r.length rc,.int .i64 ast,.slice sa l.length sc,.int .i64 mn,.int .i64 mx,.bool z,.int .i64 ix,.string nm] 25)):=(zzb _ _).alloc (zzF _) _
 have HL:=zzA (LP.refl hr hb0)
 have HX:=zzA (hr.new (ty2:=25) [.int .i64 k,.slice ra r.length rc,.int .i64 ast,.slice sa l.length sc,.int .i64 mn,.int .i64 mx,.bool z,.int .i64 ix,.string nm])
 have HR:=zzA hr
 obtain ⟨⟨-,-,hll,-⟩,hN,hLs⟩:=h.parts
 have HNN:=zzA hN
 have HLS:=zzA hLs
 have HS:=zzA hS
 have HIH:=zzA ih
 clear h hS hr hb0 hN hLs ih
 have kA:(w.alloc (.cells #[.int .i64 k,.slice ra r.length rc,.int .i64 ast,.slice sa l.length sc,.int .i64 mn,.int .i64 mx,.bool z,.int .i64 ix,.string nm] 25)).cell? ⟨w.heap.size,3,none⟩=some (.slice sa l.length sc):=HX.out.blk.cell 3
 simp only [Ta.val,Ta.vals]
 go_enter Try.func66,Try.ntmps66
 go_wp2_with fail
 go_loopw [9] (fun iv wr=>∃ (i:Nat) (v':Value) (L':List InV),i≤l.length∧iv=.int .i64 (i:Int)∧LP X rb v w L (lensS (trs (l.take i))) (codesS (trs (l.take i)) L.length) v' L' wr) (fun iv _=>l.length - (intOf iv).toNat)
 case atStart=>exact ⟨0,v,L,zzZ _,rfl,by rw [List.take_zero,trs,lensS,codesS];exact HL.out⟩
 case round =>
  obtain ⟨i,v',L',hi,rfl,hq⟩:=hrel
  have HQ:=zzA hq
  by_cases hlt:i < l.length
  ·have hlt2:(i:Int) < (l.length:Int):=by omega
   obtain ⟨b,off,rfl,hSb,_⟩:=HNN.out.2.2.2.2 (by omega)
   obtain ⟨u,hu⟩:∃ u,l[i]?=some u:=⟨_,zzJ hlt⟩
   have hum:u∈l:=zzL hu
   have hB:Below rb w wr:=HR.out.low hq.rk
   have hcell:∀ j,j < 9→wr.cell? ⟨b,off+i*9+j,none⟩=u.vals[j]?:=fun j hj=>by
    rw [Nat.add_assoc]
    rw [←HNN.out.node hu hj]
    exact (hB.cell (p:=⟨b,off+(i*9+j),none⟩) (HS.out b hSb))
   have hba:Below wr.heap.size wr (wr.alloc (.cells u.vals.toArray 25)):=(zzb _ _).alloc (zzF _) _
   have HTK:=zzA (show trs (l.take (i+1))=trs (l.take i)++[u.tr] from by rw [List.take_add_one,hu,trs_map,trs_map,zzT];rfl)
   have hle:=lens_take (trs l) (i+1)
   have htt:(trs l).take (i+1)=trs (l.take (i+1)):=by rw [trs_map,trs_map,List.map_take]
   rw [htt,HTK.out,lensS_app,lensS,lensS] at hle
   have hqle:=hq.le
   have hRK:=HIH.out u hum X S (wr.alloc (.cells u.vals.toArray 25)) rb v' L' ((HLS.out u hum).below HS.out (hB.trans (hba.mono (Nat.le_of_lt hq.row.blk.lt)))) HS.out (hq.row.below hba) (by omega)
   have HBA:=zzA hba
   clear hq hB hba hu hum htt hle hqle
   obtain ⟨ut,hut⟩:∃ q,q=u.tr:=⟨_,rfl⟩
   rw [←hut] at hRK HTK
   clear hut
   cases u with
   | mk k' r' ra' rc' a' l' sa' sc' n' m' z' i' s' =>
   simp only [Ta.vals] at hcell HBA
   simp only [Ta.val,Ta.vals] at hRK
   have c0:=hcell 0 (by omega)
   have c1':=hcell 1 (by omega)
   have c2':=hcell 2 (by omega)
   have c3:=hcell 3 (by omega)
   have c4:=hcell 4 (by omega)
   have c5:=hcell 5 (by omega)
   have c6:=hcell 6 (by omega)
   have c7:=hcell 7 (by omega)
   have c8:=hcell 8 (by omega)
   simp only [zzR,zzX,Nat.add_zero] at c0 c1' c2' c3 c4 c5 c6 c7 c8
   have HIN:=zzA hRK
   clear hcell hRK
   go_wp2_with fail
   refine HIN.out.mono ?_
   rintro e w5 ⟨rfl,v5,L5,hq5⟩
   have HQ5:=zzA ((HQ.out.below HBA.out).seq (codes_len _ _) (codeS ut) hq5)
   clear hq5
   simp only []
   go_wp2_with fail
   go_roundw
   case rel=>exact ⟨i+1,v5,L5,by omega,by go_num,by rw [HTK.out,lensS_app,codesS_app,lensS,lensS,codesS,codesS,zzY];exact HQ5.out⟩
   case measure=>simp [intOf];omega
  ·obtain rfl:i=l.length:=by omega
   have hlt2:¬((l.length:Int) < (l.length:Int)):=by omega
   go_wp2_with fail
   go_end0
   rw [List.take_length] at hq
   exact ⟨rfl,v',L',hq⟩
end Go.Proofs.Ytkhkllpdhnmhkaa
namespace Go.Proofs.Ytkhkllpdhnmhkaa
open Go.RowKit Mach Tr
variable {X:List Nat}
def fX (x:Int) (I:Ins):Ins:=⟨I.op,x,I.y,I.arg,I.rng⟩
def fY (y:Int) (I:Ins):Ins:=⟨I.op,I.x,y,I.arg,I.rng⟩
def atI (a:InV) (I:Ins):InV:=⟨I,a.A,a.n,a.c⟩
section
variable {rb g c0 i n:Nat} {v:Value} {w w':World} {L L':List InV} {c:List Ins} {a:InV}
theorem LP.setX {k:Nat} (h:LP X rb v w L n c (.slice (some ⟨g,0,none⟩) k c0) L' w') (hk:k=L'.length) (ha:L'[i]?=some a) (hi:L.length≤i) (x:Int) :
  LP X rb v w L n (c.modify (i - L.length) (fX x)) (.slice (some ⟨g,0,none⟩) k c0) (L'.set i (atI a (fX x a.I))) (w'.setCell ⟨g,i*5+1,none⟩ (.int .i64 x)):=by
 subst hk
 have hr:=h.row.set_ (q:=1) (x:=.int .i64 x) (u:=atI a (fX x a.I)) ha (by omega) rfl (h.row.els a (zzL ha))
 rw [List.length_set] at hr
 exact h.mod (fX x) ha rfl hi hr RowI.set_k (fun _=>rfl)
theorem LP.setY {k:Nat} (h:LP X rb v w L n c (.slice (some ⟨g,0,none⟩) k c0) L' w') (hk:k=L'.length) (ha:L'[i]?=some a) (hi:L.length≤i) (y:Int) :
  LP X rb v w L n (c.modify (i - L.length) (fY y)) (.slice (some ⟨g,0,none⟩) k c0) (L'.set i (atI a (fY y a.I))) (w'.setCell ⟨g,i*5+2,none⟩ (.int .i64 y)):=by
 subst hk
 have hr:=h.row.set_ (q:=2) (x:=.int .i64 y) (u:=atI a (fY y a.I)) ha (by omega) rfl (h.row.els a (zzL ha))
 rw [List.length_set] at hr
 exact h.mod (fY y) ha rfl hi hr RowI.set_k (fun _=>rfl)
theorem LP.setXY {k:Nat} (h:LP X rb v w L n c (.slice (some ⟨g,0,none⟩) k c0) L' w') (hk:k=L'.length) (ha:L'[i]?=some a) (hi:L.length≤i) (x y:Int) :
  LP X rb v w L n (c.modify (i - L.length) (fun I=>fY y (fX x I))) (.slice (some ⟨g,0,none⟩) k c0) (L'.set i (atI a (fY y (fX x a.I)))) ((w'.setCell ⟨g,i*5+1,none⟩ (.int .i64 x)).setCell ⟨g,i*5+2,none⟩ (.int .i64 y)):=by
 have hil:i < L'.length:=(zzK.1 ha).1
 have h1:=(h.setX hk ha hi x).setY (by rw [List.length_set];exact hk) (a:=atI a (fX x a.I)) (by rw [List.getElem?_set_self hil]) hi y
 rw [List.set_set,List.modify_modify_eq] at h1
 exact h1
theorem LP.finish {m:Nat} {d:List Ins} {v':Value} (h:LP X rb v w L n c v' L' w') (hn:n=m) (hc:L'.length≤20000→c=d):LP X rb v w L m d v' L' w':=by
 subst hn
 exact ⟨h.row,h.rk,h.ge,h.le,fun hk=>by rw [h.ok hk,hc hk]⟩
theorem LP.slice {A:Option Addr} (h:LP X rb v w L n c (.slice A L'.length c0) L' w') (hne:0 < L'.length):∃ g,A=some ⟨g,0,none⟩∧rb≤g∧g < w'.heap.size:=by
 obtain ⟨g,hg,-,h1,h2⟩:=own_form h.row.own hne
 exact ⟨g,hg,h1,h2⟩
theorem LP.frozen {k:Nat} (h:LP X rb v w L n c (.slice (some ⟨g,0,none⟩) k c0) L' w') (hk:k=L'.length) (j:Nat):w'.frozen? ⟨g,j,none⟩=false:=by subst hk;exact own_frozen h.row.own j
theorem LP.cellX {k:Nat} (h:LP X rb v w L n c (.slice (some ⟨g,0,none⟩) k c0) L' w') (hk:k=L'.length) (ha:L'[i]?=some a):w'.cell? ⟨g,i*5+1,none⟩=some (.int .i64 a.I.x):=by subst hk;exact own_cell h.row.own (insRow_get L' i 1 a ha (by omega))
theorem LP.cellY {k:Nat} (h:LP X rb v w L n c (.slice (some ⟨g,0,none⟩) k c0) L' w') (hk:k=L'.length) (ha:L'[i]?=some a):w'.cell? ⟨g,i*5+2,none⟩=some (.int .i64 a.I.y):=by subst hk;exact own_cell h.row.own (insRow_get L' i 2 a ha (by omega))
set_option maxRecDepth 100000 in
set_option maxHeartbeats 1000000 in
theorem next_cell (rb:Nat) (A:Option Addr) (n c:Nat) (w:World) (e0:w.cell? ⟨rb,0,none⟩=some (.slice A n c)) :
  Calls Try.prog 33 #[.pointer (some ⟨rb,0,none⟩)] w fun e w'=>e=.returned (.int .i64 n)∧w'=w:=by
 go_enter Try.func33,Try.ntmps33
 go_wp2_with fail
 go_ret
 exact ⟨rfl,rfl⟩
theorem LP.at0 {v':Value} {I:Ins} (h:LP X rb v w L n (I :: c) v' L' w') (ha:L'[L.length]?=some a) (hl:L'.length≤20000):a.I=I:=by
 have h1:(insL L')[L.length]?=some a.I:=by unfold insL;rw [zza,ha];rfl
 rw [h.ok hl,List.getElem?_append_right (by rw [insL_len];exact zzF _),insL_len,Nat.sub_self] at h1
 exact (Option.some.inj h1).symm
theorem modify_last (c:List Ins) (x:Ins) (f:Ins→Ins) (k:Nat) (hk:k=c.length):(c++[x]).modify k f=c++[f x]:=by
 subst hk
 induction c with
 | nil=>rfl
 | cons y c ih=>rw [List.cons_append,zzO,List.modify_succ_cons,ih];rfl
end
end Go.Proofs.Ytkhkllpdhnmhkaa
namespace Go.Proofs.Ytkhkllpdhnmhkaa
open Go.RowKit Mach Tr
variable {X:List Nat}
def altP:List Tr.Tr→Nat→List Ins
 | [],_=>[]
 | t :: l,b=>⟨2,(b+1:Nat),(b+1+lenS t+1:Nat),0,[]⟩ :: (codeS t (b+1)++⟨7,(b+1+lenS t+1:Nat),0,0,[]⟩ :: altP l (b+1+lenS t+1))
def nopsS:List Tr.Tr→Nat→List Nat
 | [],_=>[]
 | t :: l,b=>(b+1+lenS t) :: nopsS l (b+1+lenS t+1)
theorem altP_length:∀ (l:List Tr.Tr) (b:Nat),(altP l b).length=lensS l+2*l.length
 | [],b=>rfl
 | t :: l,b=>by rw [altP,lensS,zzO,zzG,zzO,altP_length l,code_length,zzO];omega
theorem altP_app:∀ (l:List Tr.Tr) (t:Tr.Tr) (b:Nat),altP (l++[t]) b=altP l b++(⟨2,((b+(lensS l+2*l.length)+1:Nat):Int),((b+(lensS l+2*l.length)+1+lenS t+1:Nat):Int),0,[]⟩ :: (codeS t (b+(lensS l+2*l.length)+1)++[⟨7,((b+(lensS l+2*l.length)+1+lenS t+1:Nat):Int),0,0,[]⟩]))
 | [],t,b=>rfl
 | u :: l,t,b=>by
  rw [List.cons_append,altP,altP_app l t,altP,lensS,zzO]
  have e:b+1+lenS u+1+(lensS l+2*l.length)=b+(lenS u+lensS l+2*(l.length+1)):=by omega
  rw [e,List.cons_append,List.append_assoc,List.cons_append]
theorem nopsS_app:∀ (l:List Tr.Tr) (t:Tr.Tr) (b:Nat),nopsS (l++[t]) b=nopsS l b++[b+(lensS l+2*l.length)+1+lenS t]
 | [],t,b=>rfl
 | u :: l,t,b=>by
  rw [List.cons_append,nopsS,nopsS_app l t,nopsS,lensS,zzO,List.cons_append]
  have e:b+1+lenS u+1+(lensS l+2*l.length)=b+(lenS u+lensS l+2*(l.length+1)):=by omega
  rw [e]
theorem modify_mid (c d:List Ins) (x:Ins) (f:Ins→Ins) (k:Nat) (hk:k=c.length):(c++x :: d).modify k f=c++f x :: d:=by
 subst hk
 induction c with
 | nil=>rfl
 | cons y c ih=>rw [List.cons_append,zzO,List.modify_succ_cons,ih];rfl
theorem altP_end (e:Nat) (t:Tr.Tr):∀ (l:List Tr.Tr) (b b0:Nat) (pre:List Ins),b=b0+pre.length →
  (nopsS l b).foldl (fun c o=>c.modify (o - b0) (fX (e:Int))) (pre++(altP l b++codeS t (b+(lensS l+2*l.length))))=pre++altS (l++[t]) b e
 | [],b,b0,pre,h=>by
  rw [nopsS,altP,List.nil_append,List.nil_append,List.foldl_nil,altS,if_pos (show ([]:List Tr.Tr).isEmpty=true from rfl)]
  rfl
 | u :: l,b,b0,pre,h=>by
  rw [nopsS,List.foldl_cons,altP,show altS (u :: l++[t]) b e=altS (u :: (l++[t])) b e from rfl,altS,if_neg (by simp),List.cons_append]
  have ih:=altP_end e t l (b+1+lenS u+1) b0 (pre++⟨2,(b+1:Nat),(b+1+lenS u+1:Nat),0,[]⟩ :: (codeS u (b+1)++[⟨7,(e:Nat),0,0,[]⟩])) (by rw [zzG,zzO,zzG,code_length,List.length_singleton];omega)
  have e1:b+(lensS (u :: l)+2*(u :: l).length)=b+1+lenS u+1+(lensS l+2*l.length):=by rw [lensS,zzO];omega
  rw [e1]
  have e2:(pre++(⟨2,((b+1:Nat):Int),((b+1+lenS u+1:Nat):Int),0,[]⟩ :: ((codeS u (b+1)++(⟨7,((b+1+lenS u+1:Nat):Int),0,0,[]⟩ :: altP l (b+1+lenS u+1)))++codeS t (b+1+lenS u+1+(lensS l+2*l.length))))).modify (b+1+lenS u - b0) (fX (e:Int))=(pre++⟨2,(b+1:Nat),(b+1+lenS u+1:Nat),0,[]⟩ :: (codeS u (b+1)++[⟨7,(e:Nat),0,0,[]⟩]))++(altP l (b+1+lenS u+1)++codeS t (b+1+lenS u+1+(lensS l+2*l.length))):=by
   have:=modify_mid (pre++⟨2,(b+1:Nat),(b+1+lenS u+1:Nat),0,[]⟩ :: codeS u (b+1)) (altP l (b+1+lenS u+1)++codeS t (b+1+lenS u+1+(lensS l+2*l.length))) ⟨7,(b+1+lenS u+1:Nat),0,0,[]⟩ (fX (e:Int)) (b+1+lenS u - b0) (by rw [zzG,zzO,code_length];omega)
   simp only [List.append_assoc,List.cons_append,List.nil_append] at this ⊢
   exact this
  rw [e2,ih]
  simp only [List.append_assoc,List.cons_append,List.nil_append]
structure OR (rb B:Nat) (v o:Value) (os:List Nat) (w:World):Prop where
 own:w.ownsRow B 3 1 o os.length (os.map fun n:Nat=>Value.int .i64 (n:Int))
 ne:∀ b,o.ownBlock=some b→b≠rb∧v.ownBlock≠some b
section
variable {rb B g n:Nat} {v v1 o:Value} {os:List Nat} {w w1 w':World} {L L':List InV} {c:List Ins} {ty:TypeId} {cs:List Value}
theorem OR.nil:OR rb B v (.slice none 0 0) [] w:=⟨World.ownsRow_nil _ _ _ _,fun b h=>by cases h⟩
theorem OR.below (h:OR rb B v o os w) (hb:Below w.heap.size w w1):OR rb B v o os w1:=⟨own_below h.own hb,h.ne⟩
theorem RKI.or (h:RKI rb v w v1 w1) (n:OR rb B v o os w):OR rb B v1 o os w1:=by
 refine ⟨own_kept n.own h.kept fun b hb hm=>?_,fun b hb=>⟨(n.ne b hb).1,fun e=>?_⟩⟩
 ·rcases zzN.1 hm with hm | hm
  ·exact (n.ne b hb).1 hm
  ·exact (n.ne b hb).2 (by simpa using hm)
 ·rcases h.ow with f | ⟨y,f,hy⟩
  ·exact (n.ne b hb).2 (f.symm.trans e)
  ·rw [f] at e
   have:=(n.own.lt b hb).2
   simp at e
   omega
theorem LP.grow {n' c':Nat} {A:Option Addr} (h:LP ((Value.slice A n' c').ownBlock.toList++X) rb v w L n c v1 L' w1) (hk:Kept w1 w' (Value.slice A n' c').ownBlock.toList) (ho:∀ b,(Value.slice A n' c').ownBlock=some b→w.heap.size≤b∧b≠rb∧v1.ownBlock≠some b) (hg:(Value.slice A n' c').ownBlock=some g∨w1.heap.size≤g) (hlt:g < w'.heap.size) :
  LP (g :: X) rb v w L n c v1 L' w':=by
 have hn:rb ∉ (Value.slice A n' c').ownBlock.toList:=fun hm=>(ho rb (by simpa using hm)).2.1 rfl
 have hL:∀ x∈(rb :: v1.ownBlock.toList)++(g :: X),x∈(rb :: v1.ownBlock.toList)++((Value.slice A n' c').ownBlock.toList++X)∨w1.heap.size≤x∨x < rb:=fun x hx=>by
  rcases zzM.1 hx with hx | hx
  ·exact .inl (zzW _ hx)
  ·rcases zzN.1 hx with rfl | hx
   ·rcases hg with hg | hg
    ·exact .inl (zzV _ (zzW _ (by rw [hg];simp)))
    ·exact .inr (.inl hg)
   ·exact .inl (zzV _ (zzV _ hx))
 refine ⟨⟨h.row.blk.kept hk hn,own_kept h.row.own hk (fun b hb hm=>(ho b (by simpa using hm)).2.2 hb),fun u hu=>(h.row.els u hu).fr_kept hk (fun b hb=>.inl (zzV _ (zzW _ hb))) hL,h.row.sep,fun x hx=>?_⟩,⟨(h.rk.kept.trans hk).more ?_,h.rk.ow⟩,h.ge,h.le,h.ok⟩
 ·rcases zzN.1 hx with rfl | hx
  ·exact hlt
  ·exact zzQ (h.row.xs x (zzV _ hx)) hk.size
 ·intro x hx
  rcases zzM.1 hx with hx | hx
  ·exact .inl hx
  ·exact .inr (ho x (by simpa using hx)).1
theorem LP.more {X':List Nat} (h:LP X rb v w L n c v1 L' w') (hX:∀ x∈X',x∈X):LP X' rb v w L n c v1 L' w':=⟨h.row.more hX,h.rk,h.ge,h.le,h.ok⟩
theorem NB.kept {g:Nat} {M:List Nat} (h:NB rb g ty cs v w) (hk:Kept w w' M) (hg:g ∉ M):NB rb g ty cs v w':=⟨h.blk.kept hk hg,h.ne,h.sep⟩
theorem NB.below {g:Nat} (h:NB rb g ty cs v w) (hk:Below w.heap.size w w'):NB rb g ty cs v w':=⟨h.blk.below hk h.blk.lt,h.ne,h.sep⟩
end
theorem info_int0:(Try.prog.info? 3).map (fun i=>(i.zero,i.size,i.bytes))=some (some (.int .i64 0),1,8):=by kernel_rfl
end Go.Proofs.Ytkhkllpdhnmhkaa
