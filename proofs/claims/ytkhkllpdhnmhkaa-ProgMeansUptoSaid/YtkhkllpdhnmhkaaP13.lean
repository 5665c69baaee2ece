/- heronref06's table of nodes in memory: words. -/
import Derived.Deep.AppendLies
import Derived.Deep.RegionHeldLaw
import Derived.Test.YtkhkllpdhnmhkaaP05
import Derived.Test.YtkhkllpdhnmhkaaP08
import Derived.Test.YtkhkllpdhnmhkaaP12
namespace Go.Proofs.Ytkhkllpdhnmhkaa
open Go.RowKit
def numsR (l:List Nat):List Value:=l.map fun n:Nat=>.int .i64 (n:Int)
def ndVals (v:NdV):List Value:=[.int .i64 v.kind,.int .i64 v.ast,.int .i64 v.ix,.slice v.ra v.rng.length v.rc,.slice v.sa v.subs.length v.sc,.bool v.lz,.int .i64 v.up,.int .i64 v.nth]
def ndRow (l:List NdV):List Value:=l.flatMap ndVals
theorem ndRow_length (l:List NdV):(ndRow l).length=l.length*8:=by
 induction l with
 | nil=>rfl
 | cons v l ih=>simp only [ndRow,List.flatMap_cons,zzG,zzO] at *;rw [ih,show (ndVals v).length=8 from rfl];omega
theorem ndRow_get:∀ (l:List NdV) (j q:Nat) (v:NdV),l[j]?=some v→q < 8→(ndRow l)[j*8+q]?=(ndVals v)[q]?
 | [],j,q,v,h,_=>by simp at h
 | u :: l,0,q,v,h,hq=>by
  simp only [zzR,zzd] at h
  subst h
  simp only [ndRow,List.flatMap_cons,Nat.zero_mul,Nat.zero_add]
  exact List.getElem?_append_left (by simpa [ndVals] using hq)
 | u :: l,j+1,q,v,h,hq=>by
  have:=ndRow_get l j q v (by simpa using h) hq
  have e1:(j+1)*8+q=8+(j*8+q):=by omega
  rw [e1]
  simp only [ndRow,List.flatMap_cons]
  rw [List.getElem?_append_right (by simp [ndVals]),←this]
  simp [ndVals,ndRow]
theorem ndRow_app (a b:List NdV):ndRow (a++b)=ndRow a++ndRow b:=by unfold ndRow;rw [List.flatMap_append]
theorem ndRow_one (v:NdV):ndRow [v]=ndVals v:=by unfold ndRow;simp
theorem ndV_one (v:NdV):∀ u∈ndVals v,u.oneCell'=true:=by
 intro u hu
 simp only [ndVals,zzN,List.not_mem_nil,or_false] at hu
 rcases hu with rfl | rfl | rfl | rfl | rfl | rfl | rfl | rfl <;> rfl
theorem ndRow_set {L:List NdV} {i q:Nat} {v u:NdV} {x:Value} (hv:L[i]?=some v) (hq:q < 8) (hx:(ndVals v).set q x=ndVals u):(ndRow L).set (i*8+q) x=ndRow (L.set i u):=by
 induction L generalizing i with
 | nil=>simp at hv
 | cons a L ih =>
  cases i with
  | zero =>
   simp only [zzR,zzd] at hv
   subst hv
   rw [zzD,Nat.zero_mul,Nat.zero_add]
   show (ndVals a++ndRow L).set q x=ndVals u++ndRow L
   rw [List.set_append_left _ _ (by simpa [ndVals] using hq),hx]
  | succ i =>
   rw [zzC]
   show (ndVals a++ndRow L).set ((i+1)*8+q) x=ndVals a++ndRow (L.set i u)
   rw [List.set_append_right _ _ (by simp [ndVals];omega),show (i+1)*8+q - (ndVals a).length=i*8+q from by simp [ndVals];omega,ih (by simpa using hv)]
def Fs (X:List Nat) (rb:Nat) (v:Value) (w:World) (b:Nat):Prop:=b < w.heap.size∧b≠rb∧v.ownBlock≠some b∧b ∉ X
structure TbR (X:List Nat) (rb:Nat) (v:Value) (L:List NdV) (w:World):Prop where
 blk:Blk w rb 68 [v]
 own:w.ownsRow rb 87 8 v L.length (ndRow L)
 els:∀ u∈L,RdA w (Fs X rb v w) 2 u.ra u.rng.length u.rc (flat u.rng)∧RdA w (Fs X rb v w) 1 u.sa u.subs.length u.sc (numsR u.subs)
 sep:v.ownBlock≠some rb
 xs:∀ x∈X,x < w.heap.size
section
variable {X:List Nat} {rb b size n c:Nat} {v v':Value} {w w':World} {A:Option Addr} {xs:List Value} {L:List NdV}
theorem Fs.rki (h:Fs X rb v w b) (k:RKI rb v w v' w'):Fs X rb v' w' b:=by
 refine ⟨zzQ h.1 k.kept.size,h.2.1,fun e=>?_,h.2.2.2⟩
 rcases k.ow with f | ⟨g,f,hg⟩
 ·exact h.2.2.1 (f.symm.trans e)
 ·rw [f,zzd] at e
  have:=h.1
  omega
theorem Fs.heap (h:Fs X rb v w b) (k:RKI rb v w v' w'):w'.heap[b]?=w.heap[b]?:=k.kept.block b h.1 fun hm=>by
 rcases zzN.1 hm with hm | hm
 ·exact h.2.1 hm
 ·exact h.2.2.1 (by simpa using hm)
theorem RdA.rki (h:RdA w (Fs X rb v w) size A n c xs) (k:RKI rb v w v' w'):RdA w' (Fs X rb v' w') size A n c xs:=(h.go fun _ hb=>hb.heap k).mono fun _ hb=>hb.rki k
theorem RT.rki {t:Ta} (h:RT w (Fs X rb v w) t) (k:RKI rb v w v' w'):RT w' (Fs X rb v' w') t:=(h.go fun _ hb=>hb.heap k).mono fun _ hb=>hb.rki k
theorem TbR.below (h:TbR X rb v L w) (hb:Below w.heap.size w w'):TbR X rb v L w' :=
 ⟨h.blk.below hb h.blk.lt,own_below h.own hb,fun u hu=>⟨(h.els u hu).1.rki (.of_below hb),(h.els u hu).2.rki (.of_below hb)⟩,h.sep,fun x hx=>zzQ (h.xs x hx) hb.size⟩
theorem TbR.drew (h:TbR X rb v L w):TbR X rb v L w.drew:=h.below (zzb _ _).drew
theorem TbR.new (h:TbR X rb v L w) (ty2:TypeId) (cs:List Value):NB rb w.heap.size ty2 cs v (w.alloc (.cells cs.toArray ty2)):=by
 have:=h.blk.lt
 refine ⟨Blk.new w ty2 cs,by omega,fun e=>?_⟩
 have:=h.own.lt _ e
 omega
theorem TbR.more {X':List Nat} (h:TbR X rb v L w) (hX:∀ x∈X',x∈X):TbR X' rb v L w :=
 ⟨h.blk,h.own,fun u hu=>⟨(h.els u hu).1.mono fun _ hb=>⟨hb.1,hb.2.1,hb.2.2.1,fun hm=>hb.2.2.2 (hX _ hm)⟩,(h.els u hu).2.mono fun _ hb=>⟨hb.1,hb.2.1,hb.2.2.1,fun hm=>hb.2.2.2 (hX _ hm)⟩⟩,h.sep,fun x hx=>h.xs x (hX x hx)⟩
theorem TbR.add {X':List Nat} (h:TbR X rb v L w) (hb:Below w.heap.size w w') (hX:∀ x∈X',x∈X∨(w.heap.size≤x∧x < w'.heap.size)):TbR X' rb v L w':=by
 have hh:=h.below hb
 have go:∀ {size n c:Nat} {A:Option Addr} {xs:List Value},RdA w (Fs X rb v w) size A n c xs→RdA w' (Fs X' rb v w') size A n c xs:=fun hr=>(hr.go fun _ g=>hb.block _ g.1).mono fun b g=>⟨zzQ g.1 hb.size,g.2.1,g.2.2.1,fun hm=>by
  rcases hX b hm with e | e
  ·exact g.2.2.2 e
  ·have:=g.1;omega⟩
 exact ⟨hh.blk,hh.own,fun u hu=>⟨go (h.els u hu).1,go (h.els u hu).2⟩,h.sep,fun x hx=>by
  rcases hX x hx with e | e
  ·exact hh.xs x e
  ·exact e.2⟩
theorem TbR.free {X' F:List Nat} (h:TbR X rb v L w) (hk:Kept w w' F) (hF:∀ x∈F,x∈X∧x≠rb∧v.ownBlock≠some x) (hX:∀ x∈X',x∈X∨(w.heap.size≤x∧x < w'.heap.size)):TbR X' rb v L w':=by
 have go:∀ {size n c:Nat} {A:Option Addr} {xs:List Value},RdA w (Fs X rb v w) size A n c xs→RdA w' (Fs X' rb v w') size A n c xs:=fun hr=>(hr.go fun b g=>hk.block b g.1 fun hm=>g.2.2.2 (hF b hm).1).mono fun b g=>⟨zzQ g.1 hk.size,g.2.1,g.2.2.1,fun hm=>by
  rcases hX b hm with e | e
  ·exact g.2.2.2 e
  ·have:=g.1;omega⟩
 exact ⟨h.blk.kept hk fun hm=>(hF _ hm).2.1 rfl,own_kept h.own hk fun b hb hm=>(hF b hm).2.2 hb,fun u hu=>⟨go (h.els u hu).1,go (h.els u hu).2⟩,h.sep,fun x hx=>by
  rcases hX x hx with e | e
  ·exact zzQ (h.xs x e) hk.size
  ·exact e.2⟩
theorem RT.free {X' F:List Nat} {t:Ta} (h:RT w (Fs X rb v w) t) (hk:Kept w w' F) (hF:∀ x∈F,x∈X) (hX:∀ x∈X',x∈X∨w.heap.size≤x):RT w' (Fs X' rb v w') t :=
 (h.go fun b g=>hk.block b g.1 fun hm=>g.2.2.2 (hF b hm)).mono fun b g=>⟨zzQ g.1 hk.size,g.2.1,g.2.2.1,fun hm=>by
  rcases hX b hm with e | e
  ·exact g.2.2.2 e
  ·have:=g.1;omega⟩
theorem TbR.fin {g cap c:Nat} {A:Option Addr} {u:NdV} {w2 wf:World} (h:TbR X rb (.slice A L.length c) L w) (hu:RdA w (Fs X rb (.slice A L.length c) w) 2 u.ra u.rng.length u.rc (flat u.rng)) (hs:RdA w (Fs X rb (.slice A L.length c) w) 1 u.sa u.subs.length u.sc (numsR u.subs))
  (hk0:Kept w w2 (Value.slice A L.length c).ownBlock.toList) (hk1:Kept w2 wf [rb,g]) (hgo:(Value.slice A L.length c).ownBlock=some g∨w.heap.size≤g) (hgr:g≠rb)
  (hb:Blk wf rb 68 [.slice (some ⟨g,0,none⟩) (L.length+1) cap]) (ho:wf.ownsRow rb 87 8 (.slice (some ⟨g,0,none⟩) (L.length+1) cap) (L.length+1) (ndRow (L++[u]))) :
  TbR X rb (.slice (some ⟨g,0,none⟩) (L++[u]).length cap) (L++[u]) wf∧RKI rb (.slice A L.length c) w (.slice (some ⟨g,0,none⟩) (L++[u]).length cap) wf:=by
 have hk:Kept w wf (rb :: (Value.slice A L.length c).ownBlock.toList):=(hk0.trans hk1).more (by
  intro x hx
  rcases zzM.1 hx with h | h
  ·exact .inl (zzI _ h)
  ·simp only [zzN,List.not_mem_nil,or_false] at h
   rcases h with rfl | rfl
   ·exact .inl (by simp)
   ·rcases hgo with h | h
    ·exact .inl (by rw [h];simp)
    ·exact .inr h)
 have hR:RKI rb (.slice A L.length c) w (.slice (some ⟨g,0,none⟩) (L++[u]).length cap) wf:=⟨hk,by
  rcases hgo with e | e
  ·exact .inl e.symm
  ·exact .inr ⟨g,rfl,e⟩⟩
 refine ⟨⟨by rw [zzG];exact hb,by rw [zzG];exact ho,fun z hz=>?_,fun h=>hgr (by simpa [Value.ownBlock] using h),fun x hx=>zzQ (h.xs x hx) hk.size⟩,hR⟩
 rcases zzM.1 hz with hz | hz
 ·exact ⟨(h.els z hz).1.rki hR,(h.els z hz).2.rki hR⟩
 ·rw [zzE] at hz
  subst hz
  exact ⟨hu.rki hR,hs.rki hR⟩
theorem TbR.set_ {g c i q:Nat} {x:Value} {a u:NdV} (h:TbR X rb (.slice (some ⟨g,0,none⟩) L.length c) L w) (ha:L[i]?=some a) (hq:q < 8) (hx:(ndVals a).set q x=ndVals u)
  (hu:u.ra=a.ra∧u.rc=a.rc∧u.rng=a.rng∧u.sa=a.sa∧u.sc=a.sc∧u.subs=a.subs) :
  TbR X rb (.slice (some ⟨g,0,none⟩) (L.set i u).length c) (L.set i u) (w.setCell ⟨g,i*8+q,none⟩ x):=by
 have hil:i < L.length:=(zzK.1 ha).1
 have hgr:g≠rb:=fun e=>h.sep (by rw [e];rfl)
 have hk:RKI rb (.slice (some ⟨g,0,none⟩) L.length c) w (.slice (some ⟨g,0,none⟩) L.length c) (w.setCell ⟨g,i*8+q,none⟩ x):=RowI.set_k
 have hlt:i*8+q < (ndRow L).length:=by rw [ndRow_length];omega
 refine ⟨?_,?_,?_,h.sep,fun x hx=>zzQ (h.xs x hx) hk.kept.size⟩
 ·rw [List.length_set];exact h.blk.kept (Kept.setCell _ _) (by simpa using hgr.symm)
 ·rw [List.length_set,←ndRow_set ha hq hx]
  exact own_set1 h.own hlt
 ·intro z hz
  rw [List.length_set]
  rcases List.mem_or_eq_of_mem_set hz with hz2 | rfl
  ·exact ⟨(h.els z hz2).1.rki hk,(h.els z hz2).2.rki hk⟩
  ·have:=h.els a (zzL ha)
   obtain ⟨h1,h2,h3,h4,h5,h6⟩:=hu
   rw [h1,h2,h3,h4,h5,h6]
   exact ⟨this.1.rki hk,this.2.rki hk⟩
theorem TbR.cell {g c j q:Nat} {a:NdV} {u:Value} (h:TbR X rb (.slice (some ⟨g,0,none⟩) L.length c) L w) (ha:L[j]?=some a) (hq:q < 8) (hu:(ndVals a)[q]?=some u):w.cell? ⟨g,j*8+q,none⟩=some u:=by
 have:=(Reads.of_own h.own).cellAt ((ndRow_get L j q a ha hq).trans hu)
 rwa [Nat.zero_add] at this
theorem TbR.frozen {g c:Nat} (h:TbR X rb (.slice (some ⟨g,0,none⟩) L.length c) L w):∃ cs,Blk w g 87 cs:=by
 rcases h.own.2 with ⟨h0,_⟩ | ⟨g',cap,cur,hv,hb,hh,hnc,hcm,hcs,ht⟩
 ·cases h0
 ·simp only [Value.slice.injEq,zzd,Addr.mk.injEq,and_true] at hv
  obtain ⟨rfl,_,rfl⟩:=hv
  exact ⟨cur.toList,by unfold Blk;rw [Array.toArray_toList];exact hh⟩
theorem RT.grow {X':List Nat} {t:Ta} (h:RT w (Fs X rb v w) t) (k:RKI rb v w v' w') (hX:∀ x∈X',x∈X∨w.heap.size≤x):RT w' (Fs X' rb v' w') t :=
 (h.go fun _ hb=>hb.heap k).mono fun b g=>⟨(g.rki k).1,(g.rki k).2.1,(g.rki k).2.2.1,fun hm=>by
  rcases hX b hm with e | e
  ·exact g.2.2.2 e
  ·have:=g.1;omega⟩
theorem RKI.far {v1 V:Value} {w1 w2:World} (h:RKI rb v w v1 w1) (hg:w1.grownBy w2 V.ownBlock) (hv:∀ g,V.ownBlock=some g→w.heap.size≤g):RKI rb v w v1 w2:=by
 refine ⟨(h.kept.trans (Kept.of_grown' hg)).more fun x hx=>?_,h.ow⟩
 rcases zzM.1 hx with hx | hx
 ·exact .inl hx
 ·exact .inr (hv x (by simpa using hx))
structure Acc (X:List Nat) (rb:Nat) (v:Value) (L:List NdV) (w:World) (V:Value) (l:List Nat):Prop where
 tb:TbR (V.ownBlock.toList++X) rb v L w
 own:w.ownsRow 0 3 1 V l.length (numsR l)
 far:∀ g,V.ownBlock=some g→g≠rb∧v.ownBlock≠some g
 fresh:∀ g,V.ownBlock=some g→g ∉ X
theorem Acc.nil (h:TbR X rb v L w):Acc X rb v L w (.slice none 0 0) []:=⟨h,World.ownsRow_nil _ _ _ _,(fun g hg=>by cases hg),(fun g hg=>by cases hg)⟩
theorem Acc.single (h:TbR X rb v L w) (i:Nat):Acc X rb v L (w.alloc (.cells #[.int .i64 (i:Int)] 3)) (.slice (some ⟨w.heap.size,0,none⟩) 1 1) [i]:=by
 have hb:Below w.heap.size w (w.alloc (.cells #[.int .i64 (i:Int)] 3)):=(zzb _ _).alloc (zzF _) _
 refine ⟨h.add hb fun x hx=>?_,?_,fun g hg=>?_,fun g hg hm=>?_⟩
 ·rcases zzM.1 hx with hx | hx
  ·simp only [Value.ownBlock,Option.toList_some,zzE] at hx
   exact .inr ⟨by omega,by rw [hx];simp⟩
  ·exact .inl hx
 ·have:=(Blk.new w 3 [.int .i64 (i:Int)]).own (base:=0) (size:=1) (n:=1) (c:=1) (zzZ _) (zzF _) (by decide) rfl
  exact this
 ·simp only [Value.ownBlock,zzd] at hg
  subst hg
  have:=h.blk.lt
  refine ⟨by omega,fun e=>?_⟩
  have:=(h.own.lt _ e).2
  omega
 ·simp only [Value.ownBlock,zzd] at hg
  subst hg
  have:=h.xs _ hm
  omega
theorem Acc.step {V:Value} {l:List Nat} {L':List NdV} (h:Acc X rb v L w V l) (k:RKI rb v w v' w') (g:TbR (V.ownBlock.toList++X) rb v' L' w'):Acc X rb v' L' w' V l:=by
 refine ⟨g,own_kept h.own k.kept fun b hb hm=>?_,fun b hb=>⟨(h.far b hb).1,fun e=>?_⟩,h.fresh⟩
 ·rcases zzN.1 hm with hm | hm
  ·exact (h.far b hb).1 hm
  ·exact (h.far b hb).2 (by simpa using hm)
 ·rcases k.ow with f | ⟨y,f,hy⟩
  ·exact (h.far b hb).2 (f.symm.trans e)
  ·rw [f,zzd] at e
   have:=(h.own.lt b hb).2
   omega
theorem Acc.below {V:Value} {l:List Nat} (h:Acc X rb v L w V l) (hb:Below w.heap.size w w'):Acc X rb v L w' V l:=h.step (.of_below hb) (h.tb.below hb)
theorem Acc.grown {V V':Value} {l l':List Nat} (h:Acc X rb v L w V l) (hg:w.grownBy w' V.ownBlock) (ho:w'.ownsRow 0 3 1 V' l'.length (numsR l')) (hv:∀ g,V'.ownBlock=some g→V.ownBlock=some g∨w.heap.size≤g):Acc X rb v L w' V' l':=by
 refine ⟨h.tb.free (Kept.of_grown' hg) (fun x hx=>⟨zzW _ hx,h.far x (by simpa using hx)⟩) (fun x hx=>?_),ho,fun g hg'=>?_,fun g hg' hm=>?_⟩
 ·rcases zzM.1 hx with hx | hx
  ·have hx2:V'.ownBlock=some x:=by simpa using hx
   rcases hv x hx2 with e | e
   ·exact .inl (zzW _ (by simpa using e))
   ·exact .inr ⟨e,(ho.lt x hx2).2⟩
  ·exact .inl (zzV _ hx)
 ·rcases hv g hg' with e | e
  ·exact h.far g e
  ·have h1:=h.tb.blk.lt
   refine ⟨by omega,fun e2=>?_⟩
   have:=(h.tb.own.lt g e2).2
   omega
 ·rcases hv g hg' with e | e
  ·exact h.fresh g e hm
  ·have:=h.tb.xs g (zzV _ hm)
   omega
theorem Acc.rda {A:Option Addr} {c:Nat} {l:List Nat} (h:Acc X rb v L w (.slice A l.length c) l):TbR X rb v L w∧RdA w (Fs X rb v w) 1 A l.length c (numsR l):=by
 refine ⟨h.tb.more fun x hx=>zzV _ hx,?_⟩
 rcases h.own.2 with ⟨h0,hn⟩ | ⟨g,cap,cur,hv,hb,hh,hnc,hcm,hcs,ht⟩
 ·simp only [Value.slice.injEq] at h0
  obtain ⟨rfl,h1,rfl⟩:=h0
  rw [h1,List.length_eq_zero_iff.1 h1]
  exact RdA.none_
 ·simp only [Value.slice.injEq] at hv
  obtain ⟨rfl,_,rfl⟩:=hv
  have hr:=Reads.of_own h.own
  refine ⟨hr.1,hr.2.1,hr.2.2.1,(fun e=>by cases e),fun hn=>?_⟩
  obtain ⟨b,o,e,_,hc⟩:=hr.2.2.2 hn
  have hgx:=h.fresh g rfl
  have hlt:=(h.own.lt g rfl).2
  simp only [zzd,Addr.mk.injEq,and_true] at e
  obtain ⟨rfl,rfl⟩:=e
  exact ⟨g,0,rfl,⟨hlt,(h.far g rfl).1,(h.far g rfl).2,hgx⟩,hc⟩
end
end Go.Proofs.Ytkhkllpdhnmhkaa
namespace Go.Proofs.Ytkhkllpdhnmhkaa
open Go.RowKit Mach
variable {X:List Nat}
theorem dbg {P:Prop} (h:Hid P):P:=h.out
theorem info_inst:(Try.prog.info? 51).map (fun i=>(i.zero,i.size,i.bytes))=some (some (.agg #[.int .i64 0,.int .i64 0,.int .i64 0,.int .i64 0,.slice none 0 0]),5,56):=by kernel_rfl
set_option maxRecDepth 100000 in
set_option maxHeartbeats 2000000 in
theorem next_any (rb:Nat) (v:Value) (L:List InV) (w:World) (h:RowI X rb 59 v L w) :
  Calls Try.prog 33 #[.pointer (some ⟨rb,0,none⟩)] w fun e w'=>e=.returned (.int .i64 L.length)∧w'=w:=by
 obtain ⟨A,c,rfl⟩:=own_shape h.own
 have e0:w.cell? ⟨rb,0,none⟩=some (.slice A L.length c):=h.blk.cell 0
 clear h
 go_enter Try.func33,Try.ntmps33
 go_wp2_with fail
 go_ret
 exact ⟨rfl,rfl⟩
set_option maxRecDepth 100000 in
set_option maxHeartbeats 2000000 in
theorem full_any (rb:Nat) (v:Value) (L:List InV) (w:World) (h:RowI X rb 59 v L w) :
  Calls Try.prog 20 #[.pointer (some ⟨rb,0,none⟩)] w fun e w'=>e=.returned (.bool (decide (20000 < L.length)))∧w'=w:=by
 obtain ⟨A,c,rfl⟩:=own_shape h.own
 have e0:w.cell? ⟨rb,0,none⟩=some (.slice A L.length c):=h.blk.cell 0
 clear h
 go_enter Try.func20,Try.ntmps20
 go_wp2_with fail
 go_ret
 exact ⟨ret_bool (by simp;omega),rfl⟩
set_option maxRecDepth 100000 in
set_option maxHeartbeats 2000000 in
theorem put_walk (rb:Nat) (op arg:Int) (v:Value) (L:List InV) (w:World) (h:RowI X rb 59 v L w) (hl:L.length≤1000000000) :
  Calls Try.prog 17 #[.pointer (some ⟨rb,0,none⟩),.int .i64 op,.int .i64 arg] w fun e w'=>e=.returned (.int .i64 L.length)∧∃ v',RowI X rb 59 v' (L++[⟨⟨op,(L.length:Int)+1,0,arg,[]⟩,none,0,0⟩]) w'∧RKI rb v w v' w':=by
 obtain ⟨i0,hi,hz0,hz1,hz2⟩:=info_parts info_inst
 have hn:=next_any rb v L w h
 obtain ⟨A,c,rfl⟩:=own_shape h.own
 have H:=zzA h
 have HN:=zzA hn
 have hba:Below w.heap.size w (w.alloc (.cells #[.int .i64 op,.int .i64 ((L.length:Int)+1),.int .i64 0,.int .i64 arg,.slice none 0 0] 51)):=(zzb _ _).alloc (zzF _) _
 have HB:=zzA (h.blk.alloc (.cells #[.int .i64 op,.int .i64 ((L.length:Int)+1),.int .i64 0,.int .i64 arg,.slice none 0 0] 51))
 have HO:=zzA (own_below h.own hba)
 have HBA:=zzA hba
 have hbs:rb≤(w.alloc (.cells #[.int .i64 op,.int .i64 ((L.length:Int)+1),.int .i64 0,.int .i64 arg,.slice none 0 0] 51)).heap.size:=zzU (Nat.le_of_lt h.blk.lt) hba.size
 have e0:w.cell? ⟨rb,0,none⟩=some (.slice A L.length c):=h.blk.cell 0
 have e1:(w.alloc (.cells #[.int .i64 op,.int .i64 ((L.length:Int)+1),.int .i64 0,.int .i64 arg,.slice none 0 0] 51)).cell? ⟨rb,0,none⟩=some (.slice A L.length c):=HB.out.cell 0
 clear h hn hba
 go_enter Try.func17,Try.ntmps17
 go_wp2_with fail
 refine HN.out.mono ?_
 rintro e w1 ⟨rfl,hw⟩
 subst w1
 simp only []
 go_wp2_with (first
  | (at_builtin;refine wpList_append_lies _ rfl (.tmp 14) (.tmp 20) 29 rfl rb 51 i0 (.agg #[.int .i64 0,.int .i64 0,.int .i64 0,.int .i64 0,.slice none 0 0]) 5 56 Try.underlying29 hi hz0 hz1 hz2 rfl (by decide) (.slice A L.length c) L.length (insRow L) rfl HO.out ⟨w.heap.size,0,none⟩ 1 1 [.int .i64 op,.int .i64 ((L.length:Int)+1),.int .i64 0,.int .i64 arg,.slice none 0 0] rfl rfl (new_atT w _ [.int .i64 op,.int .i64 ((L.length:Int)+1),.int .i64 0,.int .i64 arg,.slice none 0 0]) (insV_one ⟨op,(L.length:Int)+1,0,arg,[]⟩ none 0 0) (by decide) (by unfold maxLen;omega) (by omega) hbs _ rfl ?_;intro g cap2 w2 hou2 hg2 hat2 hlt2;have hgo:=at_old HBA.out.size hat2;have hgr:g≠rb:=(fun e=>(by rcases hgo with h | h;exact H.out.sep (by rw [h,e]);have:=H.out.blk.lt;omega));have hb2:=HB.out.grown hg2 H.out.sep.symm;have q1:w2.cell? ⟨rb,0,none⟩=some (.slice A L.length c):=hb2.cell 0;have q2:=hb2.frozen 0;have q3:=hb2.lt;have HOU:=zzA hou2;have HGO:=zzA hgo;have HGR:=zzA hgr;have HB2:=zzA hb2;have HG2:=zzA hg2;clear hgo hgr hb2 hg2 hou2 hat2))
 go_ret
 refine ⟨rfl,RowI.fin (c:=c) H.out RdA.none_ (((Kept.of_below (L:=[]) HBA.out).trans (Kept.of_grown' HG2.out)).more (by intro k hk;simp at hk ⊢;exact .inl hk)) ((Kept.setCell ⟨rb,0,none⟩ (.slice (some ⟨g,0,none⟩) (L.length+1) cap2)).more (by intro k hk;simp at hk ⊢;exact .inl (.inl hk))) HGO.out HGR.out (HB2.out.set_ 0 _) ?_⟩
 rw [insRow_app,insRow_one]
 exact own_kept HOU.out (Kept.setCell (w:=w2) ⟨rb,0,none⟩ _) (fun x hx hm=>by simp [Value.ownBlock] at hx hm;exact HGR.out (by rw [hx,hm]))
set_option maxRecDepth 100000 in
set_option maxHeartbeats 2000000 in
theorem end_walk (rb:Nat) (I:Ins) (hI:I.rng=[]) (v:Value) (L:List InV) (w:World) (h:RowI X rb 59 v L w) (hl:L.length≤1000000000) :
  Calls Try.prog 19 #[.pointer (some ⟨rb,0,none⟩),.agg #[.int .i64 I.op,.int .i64 I.x,.int .i64 I.y,.int .i64 I.arg,.slice none 0 0]] w fun e w'=>e=.returned (.tuple #[])∧∃ v',RowI X rb 59 v' (L++[⟨I,none,0,0⟩]) w'∧RKI rb v w v' w':=by
 obtain ⟨i0,hi,hz0,hz1,hz2⟩:=info_parts info_inst
 obtain ⟨A,c,rfl⟩:=own_shape h.own
 have hba:Below w.heap.size w (w.alloc (.cells #[.int .i64 I.op,.int .i64 I.x,.int .i64 I.y,.int .i64 I.arg,.slice none 0 0] 51)):=(zzb _ _).alloc (zzF _) _
 have hb1:=h.blk.below hba h.blk.lt
 have ho1:=own_below h.own hba
 have ht1:=Blk.new w 51 [.int .i64 I.op,.int .i64 I.x,.int .i64 I.y,.int .i64 I.arg,.slice none 0 0]
 have hbs0:rb≤(w.alloc (.cells #[.int .i64 I.op,.int .i64 I.x,.int .i64 I.y,.int .i64 I.arg,.slice none 0 0] 51)).heap.size:=zzU (Nat.le_of_lt h.blk.lt) hba.size
 have H:=zzA h
 have HI:=zzA hI
 clear h hI
 go_enter Try.func19,Try.ntmps19
 go_wp2_with (at_builtin;refine dbg ?_)
 generalize (w.alloc (.cells #[.int .i64 I.op,.int .i64 I.x,.int .i64 I.y,.int .i64 I.arg,.slice none 0 0] 51))=w1 at *
 have hb12:Below w1.heap.size w1 (w1.alloc (.cells #[.int .i64 I.op,.int .i64 I.x,.int .i64 I.y,.int .i64 I.arg,.slice none 0 0] 51)):=(zzb _ _).alloc (zzF _) _
 have HB:=zzA (hb1.alloc (.cells #[.int .i64 I.op,.int .i64 I.x,.int .i64 I.y,.int .i64 I.arg,.slice none 0 0] 51))
 have ht2:=ht1.alloc (.cells #[.int .i64 I.op,.int .i64 I.x,.int .i64 I.y,.int .i64 I.arg,.slice none 0 0] 51)
 have HO:=zzA (own_below ho1 hb12)
 have hbs:rb≤(w1.alloc (.cells #[.int .i64 I.op,.int .i64 I.x,.int .i64 I.y,.int .i64 I.arg,.slice none 0 0] 51)).drew.heap.size:=zzU hbs0 hb12.size
 have e0:w1.drew.cell? ⟨rb,0,none⟩=some (.slice A L.length c):=hb1.cell 0
 have e1:(w1.alloc (.cells #[.int .i64 I.op,.int .i64 I.x,.int .i64 I.y,.int .i64 I.arg,.slice none 0 0] 51)).drew.cell? ⟨rb,0,none⟩=some (.slice A L.length c):=HB.out.cell 0
 have g0:w1.drew.cell? ⟨w.heap.size,0,none⟩=some (.int .i64 I.op):=ht1.cell 0
 have f0:(w1.alloc (.cells #[.int .i64 I.op,.int .i64 I.x,.int .i64 I.y,.int .i64 I.arg,.slice none 0 0] 51)).drew.cell? ⟨w.heap.size,0,none⟩=some (.int .i64 I.op):=ht2.cell 0
 have g1:w1.drew.cell? ⟨w.heap.size,1,none⟩=some (.int .i64 I.x):=ht1.cell 1
 have f1:(w1.alloc (.cells #[.int .i64 I.op,.int .i64 I.x,.int .i64 I.y,.int .i64 I.arg,.slice none 0 0] 51)).drew.cell? ⟨w.heap.size,1,none⟩=some (.int .i64 I.x):=ht2.cell 1
 have g2:w1.drew.cell? ⟨w.heap.size,2,none⟩=some (.int .i64 I.y):=ht1.cell 2
 have f2:(w1.alloc (.cells #[.int .i64 I.op,.int .i64 I.x,.int .i64 I.y,.int .i64 I.arg,.slice none 0 0] 51)).drew.cell? ⟨w.heap.size,2,none⟩=some (.int .i64 I.y):=ht2.cell 2
 have g3:w1.drew.cell? ⟨w.heap.size,3,none⟩=some (.int .i64 I.arg):=ht1.cell 3
 have f3:(w1.alloc (.cells #[.int .i64 I.op,.int .i64 I.x,.int .i64 I.y,.int .i64 I.arg,.slice none 0 0] 51)).drew.cell? ⟨w.heap.size,3,none⟩=some (.int .i64 I.arg):=ht2.cell 3
 have g4:w1.drew.cell? ⟨w.heap.size,4,none⟩=some (.slice none 0 0):=ht1.cell 4
 have f4:(w1.alloc (.cells #[.int .i64 I.op,.int .i64 I.x,.int .i64 I.y,.int .i64 I.arg,.slice none 0 0] 51)).drew.cell? ⟨w.heap.size,4,none⟩=some (.slice none 0 0):=ht2.cell 4
 have HBA:=zzA hba
 have HB12:=zzA hb12
 have HSZ:=zzA (show w.heap.size≤(w1.alloc (.cells #[.int .i64 I.op,.int .i64 I.x,.int .i64 I.y,.int .i64 I.arg,.slice none 0 0] 51)).drew.heap.size from zzU hba.size hb12.size)
 clear hba hb1 ho1 ht1 ht2 hb12 hbs0
 go_region_law (first
  | (refine step_append_lies _ rfl (.tmp 8) (.tmp 10) 29 rfl rb 51 i0 (.agg #[.int .i64 0,.int .i64 0,.int .i64 0,.int .i64 0,.slice none 0 0]) 5 56 Try.underlying29 hi hz0 hz1 hz2 rfl (by decide) (.slice A L.length c) L.length (insRow L) rfl HO.out.drew ⟨w1.heap.size,0,none⟩ 1 1 [.int .i64 I.op,.int .i64 I.x,.int .i64 I.y,.int .i64 I.arg,.slice none 0 0] rfl rfl (new_atT w1 _ [.int .i64 I.op,.int .i64 I.x,.int .i64 I.y,.int .i64 I.arg,.slice none 0 0]) (insV_one I none 0 0) (by decide) (by unfold maxLen;omega) (by omega) hbs _ rfl ?_;intro g cap2 w2 hou2 hg2 hat2 hlt2;have hgo:=at_old HSZ.out hat2;have hgr:g≠rb:=(fun e=>(by rcases hgo with h | h;exact H.out.sep (by rw [h,e]);have:=H.out.blk.lt;omega));have hb2:=HB.out.drew.grown hg2 H.out.sep.symm;have q1:w2.cell? ⟨rb,0,none⟩=some (.slice A L.length c):=hb2.cell 0;have q2:=hb2.frozen 0;have q3:=hb2.lt;have HOU:=zzA hou2;have HGO:=zzA hgo;have HGR:=zzA hgr;have HB2:=zzA hb2;have HG2:=zzA hg2;clear hgo hgr hb2 hg2 hou2 hat2))
 all_goals
  go_end0
  refine ⟨rfl,RowI.fin (c:=c) H.out (by rw [HI.out];exact RdA.none_) (((Kept.of_below (L:=[]) HBA.out).trans ((Kept.of_below (L:=[]) HB12.out).trans ((Kept.drew (L:=[])).trans (Kept.of_grown' HG2.out)))).more (by intro k hk;simp at hk ⊢;exact .inl hk)) ((Kept.setCell ⟨rb,0,none⟩ (.slice (some ⟨g,0,none⟩) (L.length+1) cap2)).more (by intro k hk;simp at hk ⊢;exact .inl (.inl hk))) HGO.out HGR.out (HB2.out.set_ 0 _) ?_⟩
  rw [insRow_app,insRow_one]
  exact own_kept HOU.out (Kept.setCell (w:=w2) ⟨rb,0,none⟩ _) (fun x hx hm=>by simp [Value.ownBlock] at hx hm;exact HGR.out (by rw [hx,hm]))
end Go.Proofs.Ytkhkllpdhnmhkaa
namespace Go.Proofs.Ytkhkllpdhnmhkaa
open Go.RowKit Mach Tr
variable {X:List Nat}
structure LP (X:List Nat) (rb:Nat) (v:Value) (w:World) (L:List InV) (n:Nat) (code:List Ins) (v':Value) (L':List InV) (w':World):Prop where
 row:RowI X rb 59 v' L' w'
 rk:RKI rb v w v' w'
 ge:L.length≤L'.length
 le:L'.length≤L.length+n
 ok:L'.length≤20000→insL L'=insL L++code
theorem insL_app (a b:List InV):insL (a++b)=insL a++insL b:=by unfold insL;rw [zzT]
theorem insL_len (a:List InV):(insL a).length=a.length:=by unfold insL;rw [zzP]
theorem insL_set (a:List InV) (i:Nat) (u:InV):insL (a.set i u)=(insL a).set i u.I:=by unfold insL;rw [List.map_set]
theorem LP.trans {X':List Nat} {rb:Nat} {v:Value} {w w1 w2:World} {L L1 L2:List InV} {n m:Nat} {c d:List Ins} {v1 v2:Value} (h:LP X rb v w L n c v1 L1 w1) (g:LP X' rb v1 w1 L1 m d v2 L2 w2):LP X' rb v w L (n+m) (c++d) v2 L2 w2 :=
 ⟨g.row,h.rk.trans g.rk,zzU h.ge g.ge,by have:=h.le;have:=g.le;omega,fun hk=>by rw [g.ok hk,h.ok (zzU g.ge hk),List.append_assoc]⟩
theorem LP.refl {rb:Nat} {v:Value} {w w':World} {L:List InV} (hr:RowI X rb 59 v L w) (hb:Below w.heap.size w w'):LP X rb v w L 0 [] v L w' :=
 ⟨hr.below hb,RKI.of_below hb,zzF _,zzF _,fun _=>(zzY _).symm⟩
theorem LP.put {rb:Nat} {w w':World} {L:List InV} {u:InV} {v v':Value} (hr:RowI X rb 59 v' (L++[u]) w') (hk:RKI rb v w v' w'):LP X rb v w L 1 [u.I] v' (L++[u]) w' :=
 ⟨hr,hk,by simp,by simp,fun _=>by rw [insL_app];rfl⟩
theorem LP.below {rb:Nat} {v:Value} {w w' w2:World} {L L':List InV} {n:Nat} {c:List Ins} {v':Value} (h:LP X rb v w L n c v' L' w') (hb:Below w'.heap.size w' w2):LP X rb v w L n c v' L' w2 :=
 ⟨h.row.below hb,h.rk.trans (RKI.of_below hb),h.ge,h.le,h.ok⟩
theorem LP.set_ {rb:Nat} {v:Value} {w w' w2:World} {L L':List InV} {n:Nat} {c d:List Ins} {v':Value} (h:LP X rb v w L n c v' L' w') {i:Nat} {u:InV} (hi:L.length≤i) (hr:RowI X rb 59 v' (L'.set i u) w2) (hk:RKI rb v' w' v' w2) (hd:L'.length≤20000→c.set (i - L.length) u.I=d):LP X rb v w L n d v' (L'.set i u) w2 :=
 ⟨hr,h.rk.trans hk,by rw [List.length_set];exact h.ge,by rw [List.length_set];exact h.le,fun hl=>by
  rw [List.length_set] at hl
  rw [insL_set,h.ok hl,List.set_append_right _ _ (by rw [insL_len];exact hi),insL_len,hd hl]⟩
theorem LP.seq {X':List Nat} {rb:Nat} {v:Value} {w w1 w2:World} {L L1 L2:List InV} {n m:Nat} {c:List Ins} {v1 v2:Value} (h:LP X rb v w L n c v1 L1 w1) (hc:c.length=n) (f:Nat→List Ins) (g:LP X' rb v1 w1 L1 m (f L1.length) v2 L2 w2):LP X' rb v w L (n+m) (c++f (L.length+n)) v2 L2 w2:=by
 have t:=h.trans g
 refine ⟨t.row,t.rk,t.ge,t.le,fun hk=>?_⟩
 have h1:=congrArg List.length (h.ok (zzU g.ge hk))
 rw [insL_len,zzG,insL_len,hc] at h1
 rw [t.ok hk,h1]
theorem LP.length {rb:Nat} {v:Value} {w w1:World} {L L1:List InV} {n:Nat} {c:List Ins} {v1:Value} (h:LP X rb v w L n c v1 L1 w1) (hc:c.length=n) (hl:L1.length≤20000):L1.length=L.length+n:=by
 have h1:=congrArg List.length (h.ok hl)
 rwa [insL_len,zzG,insL_len,hc] at h1
theorem set_modify {α:Type} (f:α→α):∀ (l:List α) (i:Nat) (a:α),l[i]?=some a→l.set i (f a)=l.modify i f
 | [],i,a,h=>by simp at h
 | x :: l,0,a,h=>by simp at h;subst h;rfl
 | x :: l,i+1,a,h=>by rw [zzC,set_modify f l i a (by simpa using h)];rfl
theorem LP.mod {rb:Nat} {v:Value} {w w' w2:World} {L L':List InV} {n:Nat} {c d:List Ins} {v':Value} (h:LP X rb v w L n c v' L' w') {i:Nat} {a u:InV} (f:Ins→Ins) (ha:L'[i]?=some a) (hu:u.I=f a.I) (hi:L.length≤i) (hr:RowI X rb 59 v' (L'.set i u) w2) (hk:RKI rb v' w' v' w2) (hd:L'.length≤20000→c.modify (i - L.length) f=d):LP X rb v w L n d v' (L'.set i u) w2:=by
 refine h.set_ hi hr hk fun hl=>?_
 rw [←hd hl,hu]
 refine set_modify f c _ a.I ?_
 have h1:(insL L')[i]?=some a.I:=by unfold insL;rw [zza,ha];rfl
 rw [h.ok hl,List.getElem?_append_right (by rw [insL_len];exact hi),insL_len] at h1
 exact h1
theorem codesS_app:∀ (a b:List Tr.Tr) (n:Nat),codesS (a++b) n=codesS a n++codesS b (n+lensS a)
 | [],b,n=>by rw [List.nil_append,codesS,lensS];rfl
 | t :: a,b,n=>by rw [List.cons_append,codesS,codesS_app a b,codesS,lensS,List.append_assoc,Nat.add_assoc]
theorem lensS_app:∀ a b:List Tr.Tr,lensS (a++b)=lensS a+lensS b
 | [],b=>by rw [List.nil_append,lensS];omega
 | t :: a,b=>by rw [List.cons_append,lensS,lensS_app a b,lensS];omega
theorem codes_len (l:List Tr.Tr) (b:Nat):(codesS l b).length=lensS l:=codes_length l (fun s _ b=>code_length s b) b
theorem lens_take (l:List Tr.Tr) (i:Nat):lensS (l.take i)≤lensS l:=by
 have:=congrArg lensS (List.take_append_drop i l)
 rw [lensS_app] at this
 omega
theorem wrI {x:Int} (h:-9223372036854775808≤x∧x < 9223372036854775808):IntKind.i64.wrap x=x:=by rw [IntKind.wrap_i64];omega
theorem RowI.drew {rb:Nat} {ty:TypeId} {v:Value} {L:List InV} {w:World} (h:RowI X rb ty v L w):RowI X rb ty v L w.drew:=h.below (bdrewN (zzb _ _) 1)
theorem LP.drew {rb:Nat} {v:Value} {w w':World} {L L':List InV} {n:Nat} {c:List Ins} {v':Value} (h:LP X rb v w L n c v' L' w'):LP X rb v w L n c v' L' w'.drew:=h.below (bdrewN (zzb _ _) 1)
theorem NB.drew {rb g:Nat} {ty:TypeId} {cs:List Value} {v:Value} {w:World} (h:NB rb g ty cs v w):NB rb g ty cs v w.drew:=⟨h.blk,h.ne,h.sep⟩
theorem LP.cast {rb:Nat} {v:Value} {w w':World} {L L':List InV} {n n':Nat} {c c':List Ins} {v':Value} (h:LP X rb v w L n c v' L' w') (hn:n=n') (hc:c=c'):LP X rb v w L n' c' v' L' w':=by subst hn hc;exact h
def LY (t:Ta):Prop:=∀ (X:List Nat) (S:Nat→Prop) (w:World) (rb:Nat) (v:Value) (L:List InV),RT w S t→(∀ b,S b→b < rb)→RowI X rb 59 v L w→L.length+lenS t.tr≤1000000000 →
  Calls Try.prog 18 #[(.pointer (some ⟨rb,0,none⟩)),t.val] w fun e w'=>e=.returned (.tuple #[])∧∃ v' L',LP X rb v w L (lenS t.tr) (codeS t.tr L.length) v' L' w'
end Go.Proofs.Ytkhkllpdhnmhkaa
namespace Go.Proofs.Ytkhkllpdhnmhkaa
open Go.RowKit Mach Tr
variable {X:List Nat}
set_option maxRecDepth 100000 in
set_option maxHeartbeats 2000000 in
theorem layAss_any (k:Int) (r:List (Int × Int)) (ra:Option Addr) (rc:Nat) (ast:Int) (l:List Ta) (sa:Option Addr) (sc:Nat) (mn mx:Int) (z:Bool) (ix:Int) (nm:ByteArray) (w:World) (rb:Nat) (v:Value) (L:List InV) (hr:RowI X rb 59 v L w) (hl:L.length+1≤1000000000) :
  Calls Try.prog 62 #[(.pointer (some ⟨rb,0,none⟩)),(Ta.mk k r ra rc ast l sa sc mn mx z ix nm).val] w fun e w'=>e=.returned (.tuple #[])∧∃ v' L',LP X rb v w L 1 [⟨4,(L.length:Int)+1,0,ast,[]⟩] v' L' w':=by
 have hb0:Below w.heap.size w (w.alloc (.cells #[.int .i64 k,.slice ra r.length rc,.int .i64 ast,.slice sa l.length sc,.int .i64 mn,.int .i64 mx,.bool z,.int .i64 ix,.string nm] 25)):=(zzb _ _).alloc (zzF _) _
 have hb1:=bdrewN hb0 1
 have HP:=zzA (put_walk rb 4 ast v L (w.alloc (.cells #[.int .i64 k,.slice ra r.length rc,.int .i64 ast,.slice sa l.length sc,.int .i64 mn,.int .i64 mx,.bool z,.int .i64 ix,.string nm] 25)).drew (hr.below hb1) (by omega))
 have HL:=zzA (LP.refl hr hb1)
 have HX:=zzA (hr.new (ty2:=25) [.int .i64 k,.slice ra r.length rc,.int .i64 ast,.slice sa l.length sc,.int .i64 mn,.int .i64 mx,.bool z,.int .i64 ix,.string nm])
 clear hr hb0 hb1
 simp only [Ta.val,Ta.vals]
 go_enter Try.func62,Try.ntmps62
 go_wp2_with fail
 generalize (w.alloc (.cells #[.int .i64 k,.slice ra r.length rc,.int .i64 ast,.slice sa l.length sc,.int .i64 mn,.int .i64 mx,.bool z,.int .i64 ix,.string nm] 25))=w1 at *
 have kA:w1.drew.cell? ⟨w.heap.size,2,none⟩=some (.int .i64 ast):=HX.out.blk.cell 2
 go_region_held_law (fun w'=>w'.cell? ⟨w.heap.size,2,none⟩=some (.int .i64 ast)) (first | with_reducible exact kA | with_reducible exact kB | with_reducible exact kC | with_reducible exact kD) (first | (go_at_call 17;refine HP.out.mono ?_;rintro e w5 ⟨rfl,v5,hr5,hk5⟩;have HL5:=zzA (HL.out.trans (LP.put hr5 hk5));have HX5:=zzA (hk5.nb (w:=w1.drew) ⟨HX.out.blk,HX.out.ne,HX.out.sep⟩);have kB:w5.cell? ⟨w.heap.size,2,none⟩=some (.int .i64 ast):=HX5.out.blk.cell 2;clear hr5 hk5;simp only []))
 go_end0
 exact ⟨rfl,_,_,HL5.out⟩
set_option maxRecDepth 100000 in
set_option maxHeartbeats 2000000 in
theorem class_none (k:Int) (r:List (Int × Int)) (ra:Option Addr) (rc:Nat) (ast:Int) (l:List Ta) (sa:Option Addr) (sc:Nat) (mn mx:Int) (z:Bool) (ix:Int) (nm:ByteArray) (w:World) (rb:Nat) (v:Value) (L:List InV) (hr:RowI X rb 59 v L w) (hl:L.length+1≤1000000000) (hrp:r=[]) :
  Calls Try.prog 61 #[(.pointer (some ⟨rb,0,none⟩)),(Ta.mk k r ra rc ast l sa sc mn mx z ix nm).val] w fun e w'=>e=.returned (.tuple #[])∧∃ v' L',LP X rb v w L 1 [⟨6,0,0,0,[]⟩] v' L' w':=by
 subst hrp
 have hb0:Below w.heap.size w (w.alloc (.cells #[.int .i64 k,.slice ra ([]:List (Int × Int)).length rc,.int .i64 ast,.slice sa l.length sc,.int .i64 mn,.int .i64 mx,.bool z,.int .i64 ix,.string nm] 25)):=(zzb _ _).alloc (zzF _) _
 have hb1:=bdrewN hb0 1
 have HP:=zzA (end_walk rb ⟨6,0,0,0,[]⟩ rfl v L (w.alloc (.cells #[.int .i64 k,.slice ra ([]:List (Int × Int)).length rc,.int .i64 ast,.slice sa l.length sc,.int .i64 mn,.int .i64 mx,.bool z,.int .i64 ix,.string nm] 25)) (hr.below hb0) (by omega))
 have HL:=zzA (LP.refl hr hb0)
 have HX:=zzA (hr.new (ty2:=25) [.int .i64 k,.slice ra ([]:List (Int × Int)).length rc,.int .i64 ast,.slice sa l.length sc,.int .i64 mn,.int .i64 mx,.bool z,.int .i64 ix,.string nm])
 clear hr hb0 hb1
 simp only [Ta.val,Ta.vals]
 go_enter Try.func61,Try.ntmps61
 have kA:(w.alloc (.cells #[.int .i64 k,.slice ra ([]:List (Int × Int)).length rc,.int .i64 ast,.slice sa l.length sc,.int .i64 mn,.int .i64 mx,.bool z,.int .i64 ix,.string nm] 25)).cell? ⟨w.heap.size,1,none⟩=some (.slice ra 0 rc):=HX.out.blk.cell 1
 go_wp2_with fail
 generalize (w.alloc (.cells #[.int .i64 k,.slice ra ([]:List (Int × Int)).length rc,.int .i64 ast,.slice sa l.length sc,.int .i64 mn,.int .i64 mx,.bool z,.int .i64 ix,.string nm] 25))=w1 at *
 refine HP.out.mono ?_
 rintro e w5 ⟨rfl,v5,hr5,hk5⟩
 have HL5:=zzA (HL.out.trans (LP.put hr5 hk5))
 clear hr5 hk5
 simp only []
 go_wp2_with fail
 refine bodyPost_ret (results_none rfl _ _ _) rfl ?_
 exact ⟨rfl,_,_,HL5.out⟩
set_option maxRecDepth 100000 in
set_option maxHeartbeats 2000000 in
theorem class_some (k:Int) (r:List (Int × Int)) (ra:Option Addr) (rc:Nat) (ast:Int) (l:List Ta) (sa:Option Addr) (sc:Nat) (mn mx:Int) (z:Bool) (ix:Int) (nm:ByteArray) (S:Nat→Prop) (w:World) (rb:Nat) (v:Value) (L:List InV) (h:RT w S (.mk k r ra rc ast l sa sc mn mx z ix nm)) (hS:∀ b,S b→b < rb) (hr:RowI X rb 59 v L w) (hl:L.length+1≤1000000000) (hrp:r≠[]) :
  Calls Try.prog 61 #[(.pointer (some ⟨rb,0,none⟩)),(Ta.mk k r ra rc ast l sa sc mn mx z ix nm).val] w fun e w'=>e=.returned (.tuple #[])∧∃ v' L',LP X rb v w L 1 [⟨1,(L.length:Int)+1,0,0,r⟩] v' L' w':=by
 have hb0:Below w.heap.size w (w.alloc (.cells #[.int .i64 k,.slice ra r.length rc,.int .i64 ast,.slice sa l.length sc,.int .i64 mn,.int .i64 mx,.bool z,.int .i64 ix,.string nm] 25)):=(zzb _ _).alloc (zzF _) _
 have HP:=zzA (put_walk rb 1 0 v L (w.alloc (.cells #[.int .i64 k,.slice ra r.length rc,.int .i64 ast,.slice sa l.length sc,.int .i64 mn,.int .i64 mx,.bool z,.int .i64 ix,.string nm] 25)) (hr.below hb0) (by omega))
 have HL:=zzA (LP.refl hr hb0)
 have HX:=zzA (hr.new (ty2:=25) [.int .i64 k,.slice ra r.length rc,.int .i64 ast,.slice sa l.length sc,.int .i64 mn,.int .i64 mx,.bool z,.int .i64 ix,.string nm])
 have hrl:¬r.length=0:=fun e=>hrp (List.eq_nil_of_length_eq_zero e)
 obtain ⟨⟨hR,hrl2,hll,hnm⟩,-,-⟩:=h.parts
 have HRR:=zzA hR
 have HS:=zzA hS
 have HR:=zzA hr
 have HB0:=zzA hb0
 clear h hS hr hb0 hrp hR hnm hll
 simp only [Ta.val,Ta.vals]
 go_enter Try.func61,Try.ntmps61
 have kA:(w.alloc (.cells #[.int .i64 k,.slice ra r.length rc,.int .i64 ast,.slice sa l.length sc,.int .i64 mn,.int .i64 mx,.bool z,.int .i64 ix,.string nm] 25)).cell? ⟨w.heap.size,1,none⟩=some (.slice ra r.length rc):=HX.out.blk.cell 1
 go_wp2_with fail
 generalize (w.alloc (.cells #[.int .i64 k,.slice ra r.length rc,.int .i64 ast,.slice sa l.length sc,.int .i64 mn,.int .i64 mx,.bool z,.int .i64 ix,.string nm] 25))=w1 at *
 refine HP.out.mono ?_
 rintro e w5 ⟨rfl,v5,hr5,hk5⟩
 have HL5:=zzA (HL.out.trans (LP.put hr5 hk5))
 have HX5:=zzA (hk5.nb HX.out)
 have HR5:=zzA hr5
 obtain ⟨A5,c5,rfl⟩:=own_shape hr5.own
 clear hr5 hk5
 simp only []
 obtain ⟨g0,rfl,-,hg0,hg1⟩:=own_form HR5.out.own (by simp)
 obtain ⟨b,off,rfl,hSb,hcb⟩:=HRR.out.2.2.2.2 (by omega)
 have hlen5:(L++[⟨⟨1,(L.length:Int)+1,0,0,[]⟩,none,0,0⟩]:List InV).length=L.length+1:=by simp
 have hrb5:=HR5.out.blk.lt
 have hbrb:=HS.out b hSb
 have hlow5:Below rb w w5:=HR.out.low HL5.out.rk
 have hnews:∀ j u,(flat r)[j]?=some u→w5.drew.cell? ((⟨b,off,none⟩:Addr).add j)=some u:=fun j u hu=>by
  rw [add_lit]
  exact (hlow5.cell (p:=⟨b,off+j,none⟩) hbrb).trans (hcb j u hu)
 have e0:w5.drew.cell? ⟨rb,0,none⟩=some (.slice (some ⟨g0,0,none⟩) (L.length+1) c5):=by rw [←hlen5];exact HR5.out.blk.cell 0
 have e1:w5.drew.cell? ⟨w.heap.size,1,none⟩=some (.slice (some ⟨b,off,none⟩) r.length rc):=HX5.out.blk.cell 1
 have hlt:(L.length:Int) < (L.length:Int)+1:=by omega
 obtain ⟨i0,hi,hz0,hz1,hz2⟩:=info_parts info_clone_rng
 have HN:=zzA hnews
 have HLN:=zzA hlen5
 clear hnews hlow5 hcb hSb HRR HS HX HP kA hlen5
 go_wp2_with fail
 go_region_law (first
  | (refine step_append_lies _ rfl (.const (.slice none 0 0)) (.tmp 25) 22 rfl w5.heap.size 49 i0 (.agg #[.int .i64 0,.int .i64 0]) 2 16 Try.underlying22 hi hz0 hz1 hz2 rfl (by decide) (.slice none 0 0) 0 [] rfl (World.ownsRow_nil _ _ _ _) ⟨b,off,none⟩ r.length rc (flat r) rfl (flat_length r) HN.out (flat_one r) (by omega) (by unfold maxLen;omega) (by omega) (zzF _) _ rfl ?_;intro g cap w6 hou hgr hat hl6;have hb6:Below w5.heap.size w5 w6:=(((Kept.drew (L:=[])).trans (Kept.of_grown' hgr)).below (by simp [Value.ownBlock]) (zzF _));have HR6:=zzA (HR5.out.below hb6);have e0':w6.cell? ⟨rb,0,none⟩=some (.slice (some ⟨g0,0,none⟩) (L.length+1) c5):=(by rw [←HLN.out];exact HR6.out.blk.cell 0);have f4:w6.cell? ⟨g0,L.length*5+4,none⟩=some (.slice none 0 0):=own_cell HR6.out.own (insRow_at L ⟨⟨1,(L.length:Int)+1,0,0,[]⟩,none,0,0⟩ 4 (by omega));have f5:=own_frozen HR6.out.own (L.length*5+4);have HOU:=zzA hou;have HB6:=zzA hb6;have HAT:=zzA (hou.lt g rfl);clear hou hgr hat hb6))
 all_goals
  go_end0
  have hlenu:L.length < (L++[⟨⟨1,(L.length:Int)+1,0,0,[]⟩,none,0,0⟩]:List InV).length:=by simp
  have hat:(L++[⟨⟨1,(L.length:Int)+1,0,0,[]⟩,none,0,0⟩]:List InV)[L.length]?=some ⟨⟨1,(L.length:Int)+1,0,0,[]⟩,none,0,0⟩:=by simp
  have hru:RdA w6 (Fr rb ([rb,g0]++X) w6) 2 (some ⟨g,0,none⟩) r.length cap (flat r):=by
   obtain ⟨A',c',he,hra⟩:=RdA.of_own (L:=[rb,g0]++X) HOU.out (by intro x hx hm;simp only [Value.ownBlock,zzd] at hx;subst hx;have h1:=HAT.out.1;rcases zzM.1 hm with hm | hm;(simp only [zzN,List.not_mem_nil,or_false] at hm;omega);(have:=HR5.out.xs _ hm;omega))
   simp only [Nat.zero_add,List.nil_append] at he hra
   cases he
   exact hra.mono fun x hx=>⟨by have:=hx.1;omega,hx.2.1,hx.2.2⟩
  refine ⟨rfl,_,_,(HL5.out.below HB6.out).set_ (i:=L.length) (u:=⟨⟨1,(L.length:Int)+1,0,0,r⟩,some ⟨g,0,none⟩,r.length,cap⟩) (zzF _) ?_ ?_ ?_⟩
  ·have:=HR6.out.set_ (q:=4) (x:=.slice (some ⟨g,0,none⟩) r.length cap) (u:=⟨⟨1,(L.length:Int)+1,0,0,r⟩,some ⟨g,0,none⟩,r.length,cap⟩) hat (by omega) rfl hru
   simp only [List.length_set] at this
   exact this
  ·exact RowI.set_k
  ·intro _
   simp
end Go.Proofs.Ytkhkllpdhnmhkaa
