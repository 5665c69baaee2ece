/- Trees in memory of their own: words. No program here but the cells of a node. -/
import Derived.Test.YtkhkllpdhnmhkaaProg
import Derived.Lib.AppendZerosOnto
import Derived.WalkSpells
import Derived.Lib.SliceRun
import Derived.Lib.Hide
import Derived.Handy
import Derived.Test.YtkhkllpdhnmhkaaP00
import Derived.Test.YtkhkllpdhnmhkaaP02
import Derived.Test.YtkhkllpdhnmhkaaP03
import Derived.Test.YtkhkllpdhnmhkaaP05
import Derived.Test.YtkhkllpdhnmhkaaP06
namespace Go.Proofs.Ytkhkllpdhnmhkaa
open Go.RowKit
def Fr (B:Nat) (L:List Nat) (w:World):Nat→Prop:=fun b=>B≤b∧b < w.heap.size∧b ∉ L
section
variable {w w':World} {B B':Nat} {L L' M:List Nat} {t:Ta} {S:Nat→Prop}
theorem RT.fr_kept (h:RT w (Fr B L w) t) (k:Kept w w' M) (hM:∀ b∈M,b∈L∨w.heap.size≤b∨b < B) (hL:∀ b∈L',b∈L∨w.heap.size≤b∨b < B):RT w' (Fr B L' w') t:=by
 refine (h.go fun b hb=>k.block b hb.2.1 fun hm=>?_).mono fun b hb=>⟨hb.1,zzQ hb.2.1 k.size,fun hm=>?_⟩
 ·rcases hM b hm with e | e | e
  ·exact hb.2.2 e
  ·have:=hb.2.1;omega
  ·have:=hb.1;omega
 ·rcases hL b hm with e | e | e
  ·exact hb.2.2 e
  ·have:=hb.2.1;omega
  ·have:=hb.1;omega
theorem RT.fr_below (h:RT w (Fr B L w) t) (k:Below w.heap.size w w'):RT w' (Fr B L w') t :=
 h.fr_kept (Kept.of_below (L:=[]) k) (by simp) (fun b hb=>.inl hb)
theorem RT.fr_in (h:RT w (Fr B' [] w) t) (hB:B≤B') (hL:∀ b∈L,b < B'):RT w (Fr B L w) t :=
 h.mono fun b hb=>⟨zzU hB hb.1,hb.2.1,fun hm=>by have:=hL b hm;have:=hb.1;omega⟩
theorem RT.fr_less (h:RT w (Fr B L w) t) (hL:∀ b∈L',b∈L):RT w (Fr B L' w) t :=
 h.mono fun b hb=>⟨hb.1,hb.2.1,fun hm=>hb.2.2 (hL b hm)⟩
theorem Fr.lt {b:Nat} (h:Fr B L w b):b < w.heap.size:=h.2.1
theorem RdA.fr_kept {size n c:Nat} {A:Option Addr} {xs:List Value} (h:RdA w (Fr B L w) size A n c xs) (k:Kept w w' M) (hM:∀ b∈M,b∈L∨w.heap.size≤b∨b < B) (hL:∀ b∈L',b∈L∨w.heap.size≤b∨b < B):RdA w' (Fr B L' w') size A n c xs:=by
 refine (h.go fun b hb=>k.block b hb.2.1 fun hm=>?_).mono fun b hb=>⟨hb.1,zzQ hb.2.1 k.size,fun hm=>?_⟩
 ·rcases hM b hm with e | e | e
  ·exact hb.2.2 e
  ·have:=hb.2.1;omega
  ·have:=hb.1;omega
 ·rcases hL b hm with e | e | e
  ·exact hb.2.2 e
  ·have:=hb.2.1;omega
  ·have:=hb.1;omega
theorem RdA.fr_below {size n c:Nat} {A:Option Addr} {xs:List Value} (h:RdA w (Fr B L w) size A n c xs) (k:Below w.heap.size w w'):RdA w' (Fr B L w') size A n c xs :=
 h.fr_kept (Kept.of_below (L:=[]) k) (by simp) (fun b hb=>.inl hb)
theorem RdA.fr_less {size n c:Nat} {A:Option Addr} {xs:List Value} (h:RdA w (Fr B L w) size A n c xs) (hL:∀ b∈L',b∈L):RdA w (Fr B L' w) size A n c xs :=
 h.mono fun b hb=>⟨hb.1,hb.2.1,fun hm=>hb.2.2 (hL b hm)⟩
theorem RdA.fr_in {size n c:Nat} {A:Option Addr} {xs:List Value} (h:RdA w (Fr B' [] w) size A n c xs) (hB:B≤B') (hL:∀ b∈L,b < B'):RdA w (Fr B L w) size A n c xs :=
 h.mono fun b hb=>⟨zzU hB hb.1,hb.2.1,fun hm=>by have:=hL b hm;have:=hb.1;omega⟩
theorem RdA.of_own {base:Nat} {e:TypeId} {size n:Nat} {v:Value} {xs:List Value} (h:w.ownsRow base e size v n xs) (hn:∀ b,v.ownBlock=some b→b ∉ L):∃ A c,v=.slice A n c∧RdA w (Fr base L w) size A n c xs:=by
 rcases h.2 with ⟨rfl,rfl⟩ | ⟨g,cap,cur,rfl,hg,hh,hnc,hm,hsz,ht⟩
 ·refine ⟨none,0,rfl,zzF _,by omega,h.1,fun _=>rfl,fun h=>absurd h (by omega)⟩
 ·refine ⟨some ⟨g,0,none⟩,cap,rfl,hnc,by unfold maxLen at hm;omega,h.1,(fun h=>by cases h),fun _=>⟨g,0,rfl,⟨hg,(Array.getElem?_eq_some_iff.1 hh).1,hn g rfl⟩,fun j u hu=>?_⟩⟩
  rw [Nat.zero_add,cell_of_row w g j cur e (0,0) hh]
  rw [←ht,List.getElem?_take] at hu
  split at hu
  ·simpa using hu
  ·cases hu
theorem Blk.of_own {base:Nat} {e:TypeId} {size n:Nat} {v:Value} {xs:List Value} (h:w.ownsRow base e size v n xs) (hn:0 < n):∃ g c zs,v=.slice (some ⟨g,0,none⟩) n c∧Blk w g e (xs++zs)∧base≤g∧n≤c∧c≤9223372036854775807:=by
 rcases h.2 with ⟨_,h0⟩ | ⟨g,cap,cur,rfl,hg,hh,hnc,hm,hsz,ht⟩
 ·omega
 ·refine ⟨g,cap,cur.toList.drop (n*size),rfl,?_,hg,hnc,by unfold maxLen at hm;omega⟩
  unfold Blk
  rw [←ht,List.take_append_drop,Array.toArray_toList]
  exact hh
theorem own_parts {base:Nat} {e:TypeId} {size n:Nat} {v:Value} {xs:List Value} (h:w.ownsRow base e size v n xs):∃ A c g zs,v=.slice A n c∧n≤c∧c≤9223372036854775807∧(A=none→c=0)∧base≤g∧(0 < n→A=some ⟨g,0,none⟩∧Blk w g e (xs++zs)):=by
 rcases Nat.eq_zero_or_pos n with h0 | h0
 ·obtain ⟨A,c,rfl,hr⟩:=RdA.of_own (L:=[]) h (by simp)
  exact ⟨A,c,base,[],rfl,hr.1,hr.2.1,hr.2.2.2.1,zzF _,fun h=>absurd h (by omega)⟩
 ·obtain ⟨g,c,zs,rfl,hb,hg,hn,hc⟩:=Blk.of_own h h0
  exact ⟨_,c,g,zs,rfl,hn,hc,(fun h=>by cases h),hg,fun _=>⟨rfl,hb⟩⟩
theorem set_next {us l:List Ta} {i:Nat} {u:Ta} (hl:us.length=i) (hi:i < l.length):(us++l.drop i).set i u=(us++[u])++l.drop (i+1):=by
 rw [List.set_append_right _ _ (by omega),hl,Nat.sub_self,List.append_assoc,List.drop_eq_getElem_cons hi]
 rfl
theorem get_next {us l:List Ta} {i:Nat} {u:Ta} (hl:us.length=i) (hu:l[i]?=some u):(us++l.drop i)[i]?=some u:=by
 rw [List.getElem?_append_right (by omega),hl,Nat.sub_self,List.getElem?_drop]
 simpa using hu
theorem Ta.one (t:Ta):∀ u∈t.vals,u.oneCell'=true:=by
 cases t with
 | mk k r ra rc ast l sa sc mn mx z ix nm =>
  intro u hu
  simp only [Ta.vals,zzN,List.not_mem_nil,or_false] at hu
  rcases hu with rfl | rfl | rfl | rfl | rfl | rfl | rfl | rfl | rfl <;> rfl
theorem rowT_one (l:List Ta):∀ u∈rowT l,u.oneCell'=true:=by
 intro u hu
 unfold rowT at hu
 obtain ⟨t,_,ht⟩:=List.mem_flatMap.1 hu
 exact t.one u ht
theorem rowT_set {l:List Ta} {i:Nat} (hi:i < l.length) (zs:List Value) (k:Value) (r a s n m z x nm:Value) (u:Ta) (hu:u.vals=[k,r,a,s,n,m,z,x,nm]) :
  (((((((((rowT l++zs).set (i*9) k).set (i*9+1) r).set (i*9+2) a).set (i*9+3) s).set (i*9+4) n).set (i*9+5) m).set (i*9+6) z).set (i*9+7) x).set (i*9+8) nm=rowT (l.set i u)++zs:=by
 have hlen:=rowT_length l
 have hlen2:=rowT_length (l.set i u)
 rw [List.length_set] at hlen2
 refine List.ext_getElem? fun j=>?_
 have hgo:∀ q,q < 9→(rowT (l.set i u))[i*9+q]?=u.vals[q]?:=fun q hq=>rowT_get _ _ _ _ (by rw [List.getElem?_set_self hi]) hq
 have hfar:∀ j,j < l.length*9→(j < i*9∨i*9+9≤j)→(rowT (l.set i u))[j]?=(rowT l)[j]?:=by
  intro j hj hor
  have hq:j / 9 < l.length:=by omega
  have e:j=j / 9*9+j % 9:=by omega
  have hne:i≠j / 9:=by omega
  rw [e]
  rw [rowT_get l (j / 9) (j % 9) _ (zzJ hq) (by omega)]
  exact rowT_get _ _ _ _ (by rw [List.getElem?_set_ne hne,zzJ hq]) (by omega)
 by_cases hj:j < l.length*9
 ·have hap:(rowT (l.set i u)++zs)[j]?=(rowT (l.set i u))[j]?:=List.getElem?_append_left (by rw [hlen2];exact hj)
  rw [hap]
  by_cases hor:j < i*9∨i*9+9≤j
  ·rw [hfar j hj hor]
   rw [List.getElem?_set_ne (by omega),List.getElem?_set_ne (by omega),List.getElem?_set_ne (by omega),List.getElem?_set_ne (by omega),List.getElem?_set_ne (by omega),List.getElem?_set_ne (by omega),List.getElem?_set_ne (by omega),List.getElem?_set_ne (by omega),List.getElem?_set_ne (by omega)]
   rw [List.getElem?_append_left (by rw [hlen];exact hj)]
  ·obtain ⟨q,hq,rfl⟩:∃ q,q < 9∧j=i*9+q:=⟨j - i*9,by omega,by omega⟩
   rw [hgo q hq,hu]
   have hl9:∀ q',q' < 9→i*9+q' < (rowT l++zs).length:=fun q' hq'=>by rw [zzG,hlen];omega
   have h00:=hl9 0 (by omega)
   rw [Nat.add_zero] at h00
   rcases (show q=0∨q=1∨q=2∨q=3∨q=4∨q=5∨q=6∨q=7∨q=8 from by omega) with rfl | rfl | rfl | rfl | rfl | rfl | rfl | rfl | rfl
   all_goals simp [List.getElem?_set]
   all_goals (rw [hlen];omega)
 ·rw [List.getElem?_set_ne (by omega),List.getElem?_set_ne (by omega),List.getElem?_set_ne (by omega),List.getElem?_set_ne (by omega),List.getElem?_set_ne (by omega),List.getElem?_set_ne (by omega),List.getElem?_set_ne (by omega),List.getElem?_set_ne (by omega),List.getElem?_set_ne (by omega)]
  rw [List.getElem?_append_right (by rw [hlen];omega),List.getElem?_append_right (by rw [hlen2];omega),hlen,hlen2]
theorem Blk.set9 {g:Nat} {ty:TypeId} {l:List Ta} {zs:List Value} {i:Nat} (h:Blk w g ty (rowT l++zs)) (hi:i < l.length) {k r a s n m z x nm:Value} {u:Ta} (hu:u.vals=[k,r,a,s,n,m,z,x,nm]) :
  Blk (((((((((w.setCell ⟨g,i*9,none⟩ k).setCell ⟨g,i*9+1,none⟩ r).setCell ⟨g,i*9+2,none⟩ a).setCell ⟨g,i*9+3,none⟩ s).setCell ⟨g,i*9+4,none⟩ n).setCell ⟨g,i*9+5,none⟩ m).setCell ⟨g,i*9+6,none⟩ z).setCell ⟨g,i*9+7,none⟩ x).setCell ⟨g,i*9+8,none⟩ nm) g ty (rowT (l.set i u)++zs):=by
 rw [←rowT_set hi zs k r a s n m z x nm u hu]
 exact ((((((((h.set_ (i*9) k).set_ (i*9+1) r).set_ (i*9+2) a).set_ (i*9+3) s).set_ (i*9+4) n).set_ (i*9+5) m).set_ (i*9+6) z).set_ (i*9+7) x).set_ (i*9+8) nm
theorem kept9 (w:World) (g i:Nat) (k r a s n m z x nm:Value) :
  Kept w (((((((((w.setCell ⟨g,i,none⟩ k).setCell ⟨g,i+1,none⟩ r).setCell ⟨g,i+2,none⟩ a).setCell ⟨g,i+3,none⟩ s).setCell ⟨g,i+4,none⟩ n).setCell ⟨g,i+5,none⟩ m).setCell ⟨g,i+6,none⟩ z).setCell ⟨g,i+7,none⟩ x).setCell ⟨g,i+8,none⟩ nm) [g] :=
 (((((((((Kept.setCell ⟨g,i,none⟩ k).trans (Kept.setCell ⟨g,i+1,none⟩ r)).trans (Kept.setCell ⟨g,i+2,none⟩ a)).trans (Kept.setCell ⟨g,i+3,none⟩ s)).trans (Kept.setCell ⟨g,i+4,none⟩ n)).trans (Kept.setCell ⟨g,i+5,none⟩ m)).trans (Kept.setCell ⟨g,i+6,none⟩ z)).trans (Kept.setCell ⟨g,i+7,none⟩ x)).trans (Kept.setCell ⟨g,i+8,none⟩ nm)).more (by intro b hb;simp at hb;exact .inl (by simp [hb]))
end
end Go.Proofs.Ytkhkllpdhnmhkaa
namespace Go.Proofs.Ytkhkllpdhnmhkaa
open Go.RowKit
theorem info_clone_rng:(Try.prog.info? 49).map (fun i=>(i.zero,i.size,i.bytes))=some (some (.agg #[.int .i64 0,.int .i64 0]),2,16):=by kernel_rfl
theorem info_clone_nodes:(Try.prog.info? 25).map (fun i=>(i.zero,i.size,i.bytes))=some (some (.agg #[.int .i64 0,.slice none 0 0,.int .i64 0,.slice none 0 0,.int .i64 0,.int .i64 0,.bool false,.int .i64 0,.string ⟨#[]⟩]),9,112):=by kernel_rfl
set_option maxRecDepth 100000 in
set_option maxHeartbeats 2000000 in
theorem clone_rng (A:Option Addr) (n c:Nat) (l:List (Int × Int)) (w:World) (hA:A=none→c=0) (hr:Reads w w.heap.size 2 A n c (flat l)) (hn:n≤4194304) :
  Calls Try.prog 76 #[.slice A n c] w fun e w'=>∃ v,e=.returned v∧w'.ownsRow w.heap.size 49 2 v l.length (flat l)∧Below w.heap.size w w':=by
 obtain ⟨i0,hi,hz0,hz1,hz2⟩:=info_parts info_clone_rng
 have hlen:l.length=n:=by have:=hr.len;rw [flat_length] at this;omega
 have HLEN:=zzA hlen
 clear hlen
 have hnc:=hr.le
 have hcap:=hr.cap
 have heq:=Lib.run_eql_slice_nil (P:=Try.prog) w 22 49 A n c 0 0 Try.underlying22
 cases A with
 | none =>
  obtain rfl:c=0:=hA rfl
  obtain rfl:n=0:=by omega
  obtain rfl:l=[]:=List.eq_nil_of_length_eq_zero HLEN.out
  have HR:=zzA hr
  clear hr hA
  go_enter Try.func76,Try.ntmps76
  go_wp2_with fail
  go_ret
  exact ⟨_,rfl,World.ownsRow_nil _ _ _ _,zzb _ _⟩
 | some ad =>
  have hr1:Reads (w.alloc (.cells #[] 49)) w.heap.size 2 (some ad) n c (flat l):=hr.alloc (zzF _) _
  have ho:(w.alloc (.cells #[] 49)).ownsRow w.heap.size 49 2 (.slice (some ⟨w.heap.size,0,none⟩) 0 0) 0 []:=own_lit w w.heap.size 49 2 0 #[] [] (zzF _) rfl rfl (by decide)
  have hb:Below w.heap.size w (w.alloc (.cells #[] 49)):=(zzb _ _).alloc (zzF _) _
  have HR:=zzA hr1
  have HO:=zzA ho
  clear hr hr1 ho hA
  go_enter Try.func76,Try.ntmps76
  go_wp2_with (at_builtin;refine wpList_append_reads rfl (.tmp 5) (.tmp 6) 22 rfl w.heap.size 49 i0 (.agg #[.int .i64 0,.int .i64 0]) 2 16 Try.underlying22 hi hz0 hz1 hz2 rfl (by decide) _ 0 [] rfl HO.out (some ad) w.heap.size n c (flat l) rfl (fun h=>by cases h) HR.out (flat_one l) (by unfold maxLen;omega) (by omega) (by simp) ?_;intro v1 w1 ha1)
  go_ret
  have hbe:=hb.grown ha1.grown (by simp) (fun k hk=>(HO.out.lt k hk).1)
  have:=ha1.own
  rw [Nat.zero_add,List.nil_append,←HLEN.out] at this
  exact ⟨_,rfl,this,hbe⟩
set_option maxRecDepth 100000 in
set_option maxHeartbeats 2000000 in
theorem clone_nodes (A:Option Addr) (n c:Nat) (l:List Ta) (w:World) (hA:A=none→c=0) (hr:Reads w w.heap.size 9 A n c (rowT l)) (hn:n≤4194304) :
  Calls Try.prog 77 #[.slice A n c] w fun e w'=>∃ v,e=.returned v∧w'.ownsRow w.heap.size 25 9 v l.length (rowT l)∧Below w.heap.size w w':=by
 obtain ⟨i0,hi,hz0,hz1,hz2⟩:=info_parts info_clone_nodes
 have hlen:l.length=n:=by have:=hr.len;rw [rowT_length] at this;omega
 have HLEN:=zzA hlen
 clear hlen
 have hnc:=hr.le
 have hcap:=hr.cap
 have heq:=Lib.run_eql_slice_nil (P:=Try.prog) w 23 25 A n c 0 0 Try.underlying23
 cases A with
 | none =>
  obtain rfl:c=0:=hA rfl
  obtain rfl:n=0:=by omega
  obtain rfl:l=[]:=List.eq_nil_of_length_eq_zero HLEN.out
  have HR:=zzA hr
  clear hr hA
  go_enter Try.func77,Try.ntmps77
  go_wp2_with fail
  go_ret
  exact ⟨_,rfl,World.ownsRow_nil _ _ _ _,zzb _ _⟩
 | some ad =>
  have hr1:Reads (w.alloc (.cells #[] 25)) w.heap.size 9 (some ad) n c (rowT l):=hr.alloc (zzF _) _
  have ho:(w.alloc (.cells #[] 25)).ownsRow w.heap.size 25 9 (.slice (some ⟨w.heap.size,0,none⟩) 0 0) 0 []:=own_lit w w.heap.size 25 9 0 #[] [] (zzF _) rfl rfl (by decide)
  have hb:Below w.heap.size w (w.alloc (.cells #[] 25)):=(zzb _ _).alloc (zzF _) _
  have HR:=zzA hr1
  have HO:=zzA ho
  clear hr hr1 ho hA
  go_enter Try.func77,Try.ntmps77
  go_wp2_with (at_builtin;refine wpList_append_reads rfl (.tmp 5) (.tmp 6) 23 rfl w.heap.size 25 i0 (.agg #[.int .i64 0,.slice none 0 0,.int .i64 0,.slice none 0 0,.int .i64 0,.int .i64 0,.bool false,.int .i64 0,.string ⟨#[]⟩]) 9 112 Try.underlying23 hi hz0 hz1 hz2 rfl (by decide) _ 0 [] rfl HO.out (some ad) w.heap.size n c (rowT l) rfl (fun h=>by cases h) HR.out (rowT_one l) (by unfold maxLen;omega) (by omega) (by simp) ?_;intro v1 w1 ha1)
  go_ret
  have hbe:=hb.grown ha1.grown (by simp) (fun k hk=>(HO.out.lt k hk).1)
  have:=ha1.own
  rw [Nat.zero_add,List.nil_append,←HLEN.out] at this
  exact ⟨_,rfl,this,hbe⟩
end Go.Proofs.Ytkhkllpdhnmhkaa
namespace Go.Proofs.Ytkhkllpdhnmhkaa
open Go.RowKit Mach
def insVals (I:Ins) (A:Option Addr) (n c:Nat):List Value:=[.int .i64 I.op,.int .i64 I.x,.int .i64 I.y,.int .i64 I.arg,.slice A n c]
structure InV where
 I:Ins
 A:Option Addr
 n:Nat
 c:Nat
def insRow (L:List InV):List Value:=L.flatMap fun v=>insVals v.I v.A v.n v.c
theorem insRow_length (L:List InV):(insRow L).length=L.length*5:=by
 induction L with
 | nil=>rfl
 | cons v L ih=>simp only [insRow,List.flatMap_cons,zzG,zzO] at *;rw [ih,show (insVals v.I v.A v.n v.c).length=5 from rfl];omega
theorem insRow_get:∀ (L:List InV) (j q:Nat) (v:InV),L[j]?=some v→q < 5→(insRow L)[j*5+q]?=(insVals v.I v.A v.n v.c)[q]?
 | [],j,q,v,h,_=>by simp at h
 | u :: L,0,q,v,h,hq=>by
  simp only [zzR,zzd] at h
  subst h
  simp only [insRow,List.flatMap_cons,Nat.zero_mul,Nat.zero_add]
  exact List.getElem?_append_left (by simpa [insVals] using hq)
 | u :: L,j+1,q,v,h,hq=>by
  have:=insRow_get L j q v (by simpa using h) hq
  have e1:(j+1)*5+q=5+(j*5+q):=by omega
  rw [e1]
  simp only [insRow,List.flatMap_cons]
  rw [List.getElem?_append_right (by simp [insVals]),←this]
  simp [insVals,insRow]
def ReadsP (w:World) (B:Nat) (A:Option Addr) (n c:Nat) (L:List InV):Prop:=Reads w B 5 A n c (insRow L)∧∀ v∈L,Reads w B 2 v.A v.n v.c (flat v.I.rng)∧(v.A=none→v.c=0)
def insL (L:List InV):List Ins:=L.map (·.I)
section
variable {w w':World} {B B' n c:Nat} {A:Option Addr} {L:List InV}
theorem ReadsP.below (h:ReadsP w B A n c L) (hb:Below B w w'):ReadsP w' B A n c L:=⟨h.1.below hb,fun v hv=>⟨(h.2 v hv).1.below hb,(h.2 v hv).2⟩⟩
theorem ReadsP.more (h:ReadsP w B A n c L) (hB:B≤B'):ReadsP w B' A n c L:=⟨h.1.more hB,fun v hv=>⟨(h.2 v hv).1.more hB,(h.2 v hv).2⟩⟩
theorem ReadsP.drewN (h:ReadsP w B A n c L) (k:Nat):ReadsP (w.drewN k) B A n c L:=⟨h.1.drewN k,fun v hv=>⟨(h.2 v hv).1.drewN k,(h.2 v hv).2⟩⟩
theorem ReadsP.len (h:ReadsP w B A n c L):L.length=n:=by have:=h.1.len;rw [insRow_length] at this;omega
theorem ReadsP.cells {b off:Nat} (h:ReadsP w B (some ⟨b,off,none⟩) n c L) {j:Nat} {v:InV} (hv:L[j]?=some v) :
  w.cell? ⟨b,off+j*5,none⟩=some (.int .i64 v.I.op)∧w.cell? ⟨b,off+j*5+1,none⟩=some (.int .i64 v.I.x)∧w.cell? ⟨b,off+j*5+2,none⟩=some (.int .i64 v.I.y) ∧
  w.cell? ⟨b,off+j*5+3,none⟩=some (.int .i64 v.I.arg)∧w.cell? ⟨b,off+j*5+4,none⟩=some (.slice v.A v.n v.c):=by
 have g:∀ q u,q < 5→(insVals v.I v.A v.n v.c)[q]?=some u→w.cell? ⟨b,off+j*5+q,none⟩=some u:=fun q u hq hu=>by
  rw [Nat.add_assoc]
  exact h.1.cellAt ((insRow_get L j q v hv hq).trans hu)
 exact ⟨g 0 _ (by omega) rfl,g 1 _ (by omega) rfl,g 2 _ (by omega) rfl,g 3 _ (by omega) rfl,g 4 _ (by omega) rfl⟩
theorem ReadsP.at_ (h:ReadsP w B A n c L) (hn:0 < n):∃ b off,A=some ⟨b,off,none⟩∧b < B:=by
 obtain ⟨b,off,e,hb,_⟩:=h.1.at_ hn
 exact ⟨b,off,e,hb⟩
end
end Go.Proofs.Ytkhkllpdhnmhkaa
namespace Go.Proofs.Ytkhkllpdhnmhkaa
open Tr Mach
namespace Mean
mutual
def lenN:Un→Nat
 | .mk _ k _ _ _ _ l =>
  if k=2∨k=3 then 1 else if k=7∨k=-2 then lensN l+2 else if k=5 then lensN l+2*(l.length - 1)
  else if k=-1∨k=-3 then lensN l+1 else lensN l
def lensN:List Un→Nat
 | []=>0
 | u :: l=>lenN u+lensN l
end
mutual
def codeN:Un→Nat→List Ins
 | .mk _ k r a i z l,b =>
  if k=2 then (if r=[] then [⟨6,0,0,0,[]⟩] else [⟨1,(b+1:Nat),0,0,r⟩])
  else if k=3 then [⟨4,(b+1:Nat),0,a,[]⟩]
  else if k=7 then ⟨3,(b+1:Nat),0,2*i,[]⟩ :: (codesN l (b+1)++[⟨3,(b+1+lensN l+1:Nat),0,2*i+1,[]⟩])
  else if k=5 then altN l b (b+(lensN l+2*(l.length - 1)))
  else if k=-3 then codesN l b++[altI z b (b+lensN l+1)]
  else if k=-2 then altI z (b+1) (b+1+lensN l+1) :: (codesN l (b+1)++[⟨7,(b:Nat),0,0,[]⟩])
  else if k=-1 then altI z (b+1) (b+1+lensN l) :: codesN l (b+1)
  else codesN l b
def codesN:List Un→Nat→List Ins
 | [],_=>[]
 | t :: l,b=>codeN t b++codesN l (b+lenN t)
def altN:List Un→Nat→Nat→List Ins
 | [],_,_=>[]
 | t :: l,b,e=>if l.isEmpty then codeN t b else ⟨2,(b+1:Nat),(b+1+lenN t+1:Nat),0,[]⟩ :: (codeN t (b+1)++⟨7,(e:Nat),0,0,[]⟩ :: altN l (b+1+lenN t+1) e)
end
def nodeW (n:Un):Prop :=
 (n.kind=1∨n.kind=2∨n.kind=3∨n.kind=4∨n.kind=5∨n.kind=7∨n.kind=-1∨n.kind=-2∨n.kind=-3) ∧
 (n.kind=1∨n.kind=2∨n.kind=3→n.subs=[])∧(n.kind=5→2≤n.subs.length)∧(n.kind=7→1≤n.ix)∧(n.kind=7∨n.kind=-1∨n.kind=-2∨n.kind=-3→∃ s,n.subs=[s])
def rowK:List Un→Nat→List (Un × Nat)
 | [],_=>[]
 | u :: l,b=>(u,b) :: rowK l (b+lenN u)
def altK:List Un→Nat→List (Un × Nat)
 | [],_=>[]
 | u :: l,b=>if l.isEmpty then [(u,b)] else (u,b+1) :: altK l (b+1+lenN u+1)
def kidsB (n:Un) (b:Nat):List (Un × Nat) :=
 if n.kind=5 then altK n.subs b else if n.kind=7∨n.kind=-1∨n.kind=-2 then rowK n.subs (b+1) else rowK n.subs b
theorem rowK_fst:∀ (l:List Un) (b:Nat),(rowK l b).map (·.1)=l
 | [],_=>rfl
 | u :: l,b=>by rw [rowK,zzS,rowK_fst l]
theorem altK_fst:∀ (l:List Un) (b:Nat),(altK l b).map (·.1)=l
 | [],_=>rfl
 | u :: l,b=>by
  rw [altK]
  split
  ·rename_i h;rw [List.isEmpty_iff.1 h];rfl
  ·rw [zzS,altK_fst l]
theorem kidsB_fst (n:Un) (b:Nat):(kidsB n b).map (·.1)=n.subs:=by
 unfold kidsB
 split
 ·exact altK_fst _ _
 ·split <;> exact rowK_fst _ _
mutual
def posB:Un→Nat→List (Un × Nat)
 | .mk a k r s i z l,b=>(.mk a k r s i z l,b) :: (if k=5 then posAB l b else if k=7∨k=-1∨k=-2 then posRB l (b+1) else posRB l b)
def posRB:List Un→Nat→List (Un × Nat)
 | [],_=>[]
 | u :: l,b=>posB u b++posRB l (b+lenN u)
def posAB:List Un→Nat→List (Un × Nat)
 | [],_=>[]
 | u :: l,b=>if l.isEmpty then posB u b else posB u (b+1)++posAB l (b+1+lenN u+1)
end
theorem posRB_kids:∀ (l:List Un) (b:Nat),posRB l b=(rowK l b).flatMap fun q=>posB q.1 q.2
 | [],_=>rfl
 | u :: l,b=>by rw [posRB,rowK,posRB_kids l];rfl
theorem posAB_kids:∀ (l:List Un) (b:Nat),posAB l b=(altK l b).flatMap fun q=>posB q.1 q.2
 | [],_=>rfl
 | u :: l,b=>by
  rw [posAB,altK]
  split
  ·simp
  ·rw [posAB_kids l];rfl
theorem posB_eq (n:Un) (b:Nat):posB n b=(n,b) :: (kidsB n b).flatMap fun q=>posB q.1 q.2:=by
 cases n with
 | mk a k r s i z l =>
  rw [posB]
  unfold kidsB
  show _=_ :: List.flatMap _ (if k=5 then altK l b else if k=7∨k=-1∨k=-2 then rowK l (b+1) else rowK l b)
  split
  ·rw [posAB_kids]
  ·split <;> rw [posRB_kids]
theorem posB_self (n:Un) (b:Nat):(n,b)∈posB n b:=by rw [posB_eq];exact zzH
theorem posB_ads:∀ (u:Un) (b:Nat),(posB u b).map (fun q=>q.1.ad)=u.all.map Un.ad:=by
 intro u
 induction u using Un.ind with
 | h u ih =>
  intro b
  have hl:∀ (L:List (Un × Nat)),(∀ q∈L,q.1∈u.subs)→(L.flatMap fun q=>posB q.1 q.2).map (fun q=>q.1.ad)=(allU (L.map (·.1))).map Un.ad:=by
   intro L
   induction L with
   | nil=>intro _;rfl
   | cons q L ihL =>
    intro h
    rw [List.flatMap_cons,zzT,ih q.1 (h q zzH),ihL fun x hx=>h x (zzI _ hx),zzS,allU,zzT]
  rw [posB_eq,zzS,hl _ fun q hq=>by rw [←kidsB_fst u b];exact List.mem_map_of_mem hq,kidsB_fst,all_subs u,zzS]
def altPc:List Un→Nat→List Nat
 | [],_=>[]
 | u :: l,b=>if l.isEmpty then [] else b :: altPc l (b+1+lenN u+1)
def ownB (n:Un) (b:Nat):List Nat :=
 if n.kind=5 then altPc n.subs b else if n.kind=-1∨n.kind=-2 then [b] else if n.kind=-3 then [b+lenN n - 1] else []
theorem lenN_eq (n:Un):lenN n=if n.kind=2∨n.kind=3 then 1 else if n.kind=7∨n.kind=-2 then lensN n.subs+2 else if n.kind=5 then lensN n.subs+2*(n.subs.length - 1) else if n.kind=-1∨n.kind=-3 then lensN n.subs+1 else lensN n.subs:=by
 cases n;rw [lenN];rfl
def Within (L:List (Un × Nat)) (lo hi:Nat):Prop:=(∀ q∈L,lo≤q.2∧q.2+lenN q.1≤hi)∧L.Pairwise fun q r=>q.2+lenN q.1≤r.2
theorem rowK_within:∀ (l:List Un) (b:Nat),Within (rowK l b) b (b+lensN l)
 | [],b=>⟨by simp [rowK],by simp [rowK]⟩
 | u :: l,b=>by
  obtain ⟨h1,h2⟩:=rowK_within l (b+lenN u)
  rw [rowK,lensN]
  refine ⟨fun q hq=>?_,List.pairwise_cons.2 ⟨fun q hq=>(h1 q hq).1,h2⟩⟩
  rcases zzN.1 hq with rfl | hq
  ·exact ⟨zzF _,by simp only [];omega⟩
  ·have:=h1 q hq;omega
theorem altK_within:∀ (l:List Un) (b:Nat),Within (altK l b) b (b+(lensN l+2*(l.length - 1)))
 | [],b=>⟨by simp [altK],by simp [altK]⟩
 | u :: l,b=>by
  obtain ⟨h1,h2⟩:=altK_within l (b+1+lenN u+1)
  rw [altK,lensN]
  split
  ·rename_i h
   rw [List.isEmpty_iff.1 h]
   refine ⟨fun q hq=>?_,by simp⟩
   rw [zzE] at hq
   subst hq
   simp [lensN]
  ·rename_i h
   have hl:1≤l.length:=by
    cases l with
    | nil=>simp at h
    | cons v l=>simp
   refine ⟨fun q hq=>?_,List.pairwise_cons.2 ⟨fun q hq=>by have:=(h1 q hq).1;simp only [];omega,h2⟩⟩
   rw [zzO]
   rcases zzN.1 hq with rfl | hq
   ·simp only [];omega
   ·have:=h1 q hq;omega
theorem kids_within {n:Un} (b:Nat) (hw:nodeW n):Within (kidsB n b) b (b+lenN n):=by
 have mono:∀ {L:List (Un × Nat)} {lo hi lo' hi':Nat},Within L lo hi→lo'≤lo→hi≤hi'→Within L lo' hi':=fun h h1 h2=>⟨fun q hq=>by have:=h.1 q hq;omega,h.2⟩
 unfold kidsB
 rw [lenN_eq]
 by_cases k5:n.kind=5
 ·rw [if_pos k5,if_neg (by omega),if_neg (by omega),if_pos k5];exact altK_within _ _
 rw [if_neg k5]
 by_cases k2:n.kind=2∨n.kind=3
 ·rw [if_pos k2,if_neg (by omega),hw.2.1 (by omega)];exact ⟨by simp [rowK],by simp [rowK]⟩
 rw [if_neg k2,if_neg k5]
 by_cases k7:n.kind=7∨n.kind=-2
 ·rw [if_pos k7,if_pos (by omega)];exact mono (rowK_within _ _) (by omega) (by omega)
 rw [if_neg k7]
 by_cases k1:n.kind=-1
 ·rw [if_pos (.inr (.inl k1)),if_pos (.inl k1)];exact mono (rowK_within _ _) (by omega) (by omega)
 rw [if_neg (by omega)]
 split
 ·exact mono (rowK_within _ _) (by omega) (by omega)
 ·exact rowK_within _ _
theorem altPc_in:∀ (l:List Un) (b:Nat),∀ i∈altPc l b,b≤i∧i < b+(lensN l+2*(l.length - 1))∧∀ q∈altK l b,i < q.2∨q.2+lenN q.1≤i
 | [],b,i,hi=>by simp [altPc] at hi
 | u :: l,b,i,hi=>by
  rw [altPc] at hi
  rw [altK,lensN]
  split at hi
  ·simp at hi
  ·rename_i h
   have hl:1≤l.length:=by
    cases l with
    | nil=>simp at h
    | cons v l=>simp
   rw [if_neg h,zzO]
   have hk:=altK_within l (b+1+lenN u+1)
   rcases zzN.1 hi with rfl | hi
   ·refine ⟨zzF _,by omega,fun q hq=>?_⟩
    rcases zzN.1 hq with rfl | hq
    ·simp only [];omega
    ·have:=(hk.1 q hq).1;omega
   ·obtain ⟨h1,h2,h3⟩:=altPc_in l (b+1+lenN u+1) i hi
    refine ⟨by omega,by omega,fun q hq=>?_⟩
    rcases zzN.1 hq with rfl | hq
    ·simp only [];omega
    ·exact h3 q hq
theorem own_in {n:Un} {b:Nat} (hw:nodeW n):∀ i∈ownB n b,b≤i∧i < b+lenN n∧∀ q∈kidsB n b,i < q.2∨q.2+lenN q.1≤i:=by
 intro i hi
 unfold ownB at hi
 unfold kidsB
 by_cases k5:n.kind=5
 ·rw [if_pos k5] at hi
  rw [if_pos k5,lenN_eq,if_neg (by omega),if_neg (by omega),if_pos k5]
  exact altPc_in _ _ i hi
 rw [if_neg k5] at hi ⊢
 by_cases k1:n.kind=-1∨n.kind=-2
 ·rw [if_pos k1,zzE] at hi
  subst hi
  rw [if_pos (by omega)]
  have:=rowK_within n.subs (i+1)
  refine ⟨zzF _,?_,fun q hq=>.inl (by have:=(this.1 q hq).1;omega)⟩
  rw [lenN_eq]
  rcases k1 with k1 | k1 <;> simp [k1]
 rw [if_neg k1] at hi
 by_cases k3:n.kind=-3
 ·rw [if_pos k3,zzE] at hi
  rw [if_neg (by omega)]
  have hl:lenN n=lensN n.subs+1:=by rw [lenN_eq];simp [k3]
  have:=rowK_within n.subs b
  refine ⟨by omega,by omega,fun q hq=>.inr (by have:=(this.1 q hq).2;omega)⟩
 ·rw [if_neg k3] at hi;cases hi
theorem pos_within:∀ (u:Un) (b:Nat),(∀ n∈u.all,nodeW n)→∀ q∈posB u b,b≤q.2∧q.2+lenN q.1≤b+lenN u:=by
 intro u
 induction u using Un.ind with
 | h u ih =>
  intro b hw q hq
  rw [posB_eq] at hq
  rcases zzN.1 hq with rfl | hq
  ·exact ⟨zzF _,zzF _⟩
  obtain ⟨c,hc,hq⟩:=List.mem_flatMap.1 hq
  have hcs:c.1∈u.subs:=by rw [←kidsB_fst u b];exact List.mem_map_of_mem hc
  have h1:=ih c.1 hcs c.2 (fun n hn=>hw n (by rw [all_subs u];exact zzI _ (by rw [allU_flat];exact List.mem_flatMap.2 ⟨_,hcs,hn⟩))) q hq
  have h2:=(kids_within b (hw u (by rw [all_subs u];exact zzH))).1 c hc
  omega
theorem pos_node {u:Un} {b:Nat} {q:Un × Nat} (hq:q∈posB u b):q.1∈u.all:=by
 have:∀ (u:Un) (b:Nat),∀ q∈posB u b,q.1∈u.all:=by
  intro u
  induction u using Un.ind with
  | h u ih =>
   intro b q hq
   rw [posB_eq] at hq
   rw [all_subs u]
   rcases zzN.1 hq with rfl | hq
   ·exact zzH
   obtain ⟨c,hc,hq⟩:=List.mem_flatMap.1 hq
   have hcs:c.1∈u.subs:=by rw [←kidsB_fst u b];exact List.mem_map_of_mem hc
   exact zzI _ (by rw [allU_flat];exact List.mem_flatMap.2 ⟨_,hcs,ih c.1 hcs c.2 q hq⟩)
 exact this u b q hq
theorem own_one:∀ (u:Un) (b:Nat),(∀ n∈u.all,nodeW n)→∀ q∈posB u b,∀ r∈posB u b,∀ i,i∈ownB q.1 q.2→i∈ownB r.1 r.2→q=r:=by
 intro u
 induction u using Un.ind with
 | h u ih =>
  intro b hw q hq r hr i hi hj
  have hwu:=hw u (by rw [all_subs u];exact zzH)
  have hws:∀ s∈u.subs,∀ n∈s.all,nodeW n:=fun s hs n hn=>hw n (by rw [all_subs u];exact zzI _ (by rw [allU_flat];exact List.mem_flatMap.2 ⟨_,hs,hn⟩))
  have hks:∀ c∈kidsB u b,c.1∈u.subs:=fun c hc=>by rw [←kidsB_fst u b];exact List.mem_map_of_mem hc
  have inn:∀ c∈kidsB u b,∀ q∈posB c.1 c.2,i∈ownB q.1 q.2→c.2≤i∧i < c.2+lenN c.1:=fun c hc q hq hi=>by
   have h1:=pos_within c.1 c.2 (hws _ (hks c hc)) q hq
   have h2:=own_in (hws _ (hks c hc) q.1 (pos_node hq)) i hi
   omega
  rw [posB_eq] at hq hr
  rcases zzN.1 hq with rfl | hq
  ·rcases zzN.1 hr with rfl | hr
   ·rfl
   obtain ⟨d,hd,hr⟩:=List.mem_flatMap.1 hr
   have h1:=inn d hd r hr hj
   have h2:=(own_in hwu i hi).2.2 d hd
   omega
  obtain ⟨c,hc,hq⟩:=List.mem_flatMap.1 hq
  have h1:=inn c hc q hq hi
  rcases zzN.1 hr with rfl | hr
  ·have h2:=(own_in hwu i hj).2.2 c hc
   omega
  obtain ⟨d,hd,hr⟩:=List.mem_flatMap.1 hr
  have h2:=inn d hd r hr hj
  have hpw:=(kids_within b hwu).2
  have hcd:c=d:=by
   obtain ⟨x,hx,rfl⟩:=List.mem_iff_getElem.1 hc
   obtain ⟨y,hy,rfl⟩:=List.mem_iff_getElem.1 hd
   rw [List.pairwise_iff_getElem] at hpw
   rcases Nat.lt_trichotomy x y with h | h | h
   ·have:=hpw x y hx hy h;omega
   ·subst h;rfl
   ·have:=hpw y x hy hx h;omega
  subst hcd
  exact ih c.1 (hks c hc) c.2 (hws _ (hks c hc)) q hq r hr i hi hj
end Mean
end Go.Proofs.Ytkhkllpdhnmhkaa
namespace Go.Proofs.Ytkhkllpdhnmhkaa
open Tr Mach
namespace Mean
theorem codesN_length (l:List Un) (ih:∀ s∈l,∀ b,(codeN s b).length=lenN s):∀ b,(codesN l b).length=lensN l:=by
 induction l with
 | nil=>intro b;rfl
 | cons t l ihl =>
  intro b
  rw [codesN,lensN,zzG,ih t zzH,ihl fun s hs=>ih s (zzI _ hs)]
theorem altN_length (l:List Un) (ih:∀ s∈l,∀ b,(codeN s b).length=lenN s):∀ b e,(altN l b e).length=lensN l+2*(l.length - 1):=by
 induction l with
 | nil=>intro b e;rfl
 | cons t l ihl =>
  intro b e
  have h:=ihl fun s hs=>ih s (zzI _ hs)
  rw [altN,lensN,zzO]
  cases l with
  | nil=>simp [ih t zzH,lensN]
  | cons u l =>
   rw [if_neg (by simp),zzO,zzG,zzO,ih t zzH,h]
   simp only [zzO]
   omega
theorem codeN_eq (n:Un) (b:Nat):codeN n b =
  if n.kind=2 then (if n.rng=[] then [⟨6,0,0,0,[]⟩] else [⟨1,(b+1:Nat),0,0,n.rng⟩])
  else if n.kind=3 then [⟨4,(b+1:Nat),0,n.ast,[]⟩]
  else if n.kind=7 then ⟨3,(b+1:Nat),0,2*n.ix,[]⟩ :: (codesN n.subs (b+1)++[⟨3,(b+1+lensN n.subs+1:Nat),0,2*n.ix+1,[]⟩])
  else if n.kind=5 then altN n.subs b (b+(lensN n.subs+2*(n.subs.length - 1)))
  else if n.kind=-3 then codesN n.subs b++[altI n.lz b (b+lensN n.subs+1)]
  else if n.kind=-2 then altI n.lz (b+1) (b+1+lensN n.subs+1) :: (codesN n.subs (b+1)++[⟨7,(b:Nat),0,0,[]⟩])
  else if n.kind=-1 then altI n.lz (b+1) (b+1+lensN n.subs) :: codesN n.subs (b+1)
  else codesN n.subs b:=by cases n;rw [codeN];rfl
theorem codeN_length:∀ (u:Un) (b:Nat),(codeN u b).length=lenN u:=by
 intro u
 induction u using Un.ind with
 | h u ih =>
  intro b
  have h1:=codesN_length u.subs ih
  have h2:=altN_length u.subs ih
  rw [codeN_eq,lenN_eq]
  by_cases k2:u.kind=2
  ·rw [if_pos k2,if_pos (show u.kind=2∨u.kind=3 from .inl k2)];split <;> rfl
  by_cases k3:u.kind=3
  ·rw [if_neg k2,if_pos k3,if_pos (show u.kind=2∨u.kind=3 from .inr k3)];rfl
  rw [if_neg k2,if_neg k3,if_neg (show ¬(u.kind=2∨u.kind=3) from fun h=>h.elim k2 k3)]
  by_cases k7:u.kind=7
  ·rw [if_pos k7,if_pos (show u.kind=7∨u.kind=-2 from .inl k7),zzO,zzG,h1];simp
  rw [if_neg k7]
  by_cases k5:u.kind=5
  ·rw [if_pos k5,if_neg (by omega),if_pos k5,h2]
  rw [if_neg k5]
  by_cases m3:u.kind=-3
  ·rw [if_pos m3,if_neg (by omega),if_neg k5,if_pos (show u.kind=-1∨u.kind=-3 from .inr m3),zzG,h1];simp
  rw [if_neg m3]
  by_cases m2:u.kind=-2
  ·rw [if_pos m2,if_pos (show u.kind=7∨u.kind=-2 from .inr m2),zzO,zzG,h1];simp
  rw [if_neg m2]
  by_cases m1:u.kind=-1
  ·rw [if_pos m1,if_neg (by omega),if_neg k5,if_pos (show u.kind=-1∨u.kind=-3 from .inl m1),zzO,h1]
  ·rw [if_neg m1,if_neg (by omega),if_neg k5,if_neg (by omega),h1]
section
variable (I:Nat→Option Ins) (P:List (Un × Nat))
def CodeAt (L:List Ins) (b:Nat):Prop:=∀ (j:Nat) x,L[j]?=some x→I (b+j)=some x
def RowP:List Un→Nat→Prop
 | [],_=>True
 | u :: l,b=>(u,b)∈P∧RowP l (b+lenN u)
def AltP:List Un→Nat→Nat→Prop
 | [],_,_=>True
 | u :: l,b,e=>if l.isEmpty then (u,b)∈P∧b+lenN u=e else
   I b=some ⟨2,(b+1:Nat),(b+1+lenN u+1:Nat),0,[]⟩∧(u,b+1)∈P∧I (b+1+lenN u)=some ⟨7,(e:Nat),0,0,[]⟩∧AltP l (b+1+lenN u+1) e
structure Loc (n:Un) (b:Nat):Prop where
 cls:n.kind=2→I b=some (if n.rng=[] then ⟨6,0,0,0,[]⟩ else ⟨1,(b+1:Nat),0,0,n.rng⟩)
 ass:n.kind=3→I b=some ⟨4,(b+1:Nat),0,n.ast,[]⟩
 row:n.kind=4→RowP P n.subs b∧lenN n=lensN n.subs
 alt:n.kind=5→AltP I P n.subs b (b+lenN n)
 grp:∀ s,n.kind=7→n.subs=[s]→I b=some ⟨3,(b+1:Nat),0,2*n.ix,[]⟩∧(s,b+1)∈P∧I (b+1+lenN s)=some ⟨3,(b+1+lenN s+1:Nat),0,2*n.ix+1,[]⟩∧lenN n=lenN s+2
 opt:∀ s,n.kind=-1→n.subs=[s]→I b=some (altI n.lz (b+1) (b+1+lenN s))∧(s,b+1)∈P∧lenN n=lenN s+1
 star:∀ s,n.kind=-2→n.subs=[s]→I b=some (altI n.lz (b+1) (b+1+lenN s+1))∧(s,b+1)∈P∧I (b+1+lenN s)=some ⟨7,(b:Nat),0,0,[]⟩∧lenN n=lenN s+2
 plus:∀ s,n.kind=-3→n.subs=[s]→I (b+lenN s)=some (altI n.lz b (b+lenN s+1))∧(s,b)∈P∧lenN n=lenN s+1
 one:n.kind=1→lenN n=0
 two:n.kind=2∨n.kind=3→lenN n=1
end
section
variable {I:Nat→Option Ins} {P:List (Un × Nat)}
theorem CodeAt.head {x:Ins} {L:List Ins} {b:Nat} (h:CodeAt I (x :: L) b):I b=some x:=h 0 x rfl
theorem CodeAt.tail {x:Ins} {L:List Ins} {b:Nat} (h:CodeAt I (x :: L) b):CodeAt I L (b+1):=fun j y hy=>by
 have:=h (j+1) y (by simpa using hy)
 rwa [show b+(j+1)=b+1+j from by omega] at this
theorem CodeAt.left {L M:List Ins} {b:Nat} (h:CodeAt I (L++M) b):CodeAt I L b:=fun j y hy=>h j y (by
 rw [List.getElem?_append_left (zzK.1 hy).1];exact hy)
theorem CodeAt.right {L M:List Ins} {b n:Nat} (h:CodeAt I (L++M) b) (hn:L.length=n):CodeAt I M (b+n):=fun j y hy=>by
 have:=h (L.length+j) y (by rw [List.getElem?_append_right (by omega),show L.length+j - L.length=j from by omega];exact hy)
 rwa [show b+(L.length+j)=b+n+j from by omega] at this
theorem row_code:∀ (l:List Un) (b:Nat),CodeAt I (codesN l b) b→∀ c∈rowK l b,CodeAt I (codeN c.1 c.2) c.2
 | [],b,_,c,hc=>by simp [rowK] at hc
 | u :: l,b,h,c,hc=>by
  rw [codesN] at h
  rw [rowK] at hc
  rcases zzN.1 hc with rfl | hc
  ·exact h.left
  ·exact row_code l _ (h.right (codeN_length u b)) c hc
theorem alt_code:∀ (l:List Un) (b e:Nat),CodeAt I (altN l b e) b→∀ c∈altK l b,CodeAt I (codeN c.1 c.2) c.2
 | [],b,_,_,c,hc=>by simp [altK] at hc
 | u :: l,b,e,h,c,hc=>by
  rw [altN] at h
  rw [altK] at hc
  split at hc
  ·rename_i hl
   rw [if_pos hl] at h
   rw [zzE] at hc
   subst hc
   exact h
  ·rename_i hl
   rw [if_neg hl] at h
   rcases zzN.1 hc with rfl | hc
   ·exact h.tail.left
   ·exact alt_code l _ e (h.tail.right (codeN_length u _)).tail c hc
theorem kids_code {n:Un} {b:Nat} (hw:nodeW n) (h:CodeAt I (codeN n b) b):∀ c∈kidsB n b,CodeAt I (codeN c.1 c.2) c.2:=by
 rw [codeN_eq] at h
 unfold kidsB
 by_cases k2:n.kind=2
 ·rw [if_neg (by omega),if_neg (by omega),hw.2.1 (by omega)];intro c hc;simp [rowK] at hc
 rw [if_neg k2] at h
 by_cases k3:n.kind=3
 ·rw [if_neg (by omega),if_neg (by omega),hw.2.1 (by omega)];intro c hc;simp [rowK] at hc
 rw [if_neg k3] at h
 by_cases k7:n.kind=7
 ·rw [if_neg (by omega),if_pos (by omega)]
  rw [if_pos k7] at h
  exact row_code _ _ h.tail.left
 rw [if_neg k7] at h
 by_cases k5:n.kind=5
 ·rw [if_pos k5]
  rw [if_pos k5] at h
  exact alt_code _ _ _ h
 rw [if_neg k5] at h ⊢
 by_cases m3:n.kind=-3
 ·rw [if_neg (by omega)]
  rw [if_pos m3] at h
  exact row_code _ _ h.left
 rw [if_neg m3] at h
 by_cases m2:n.kind=-2
 ·rw [if_pos (by omega)]
  rw [if_pos m2] at h
  exact row_code _ _ h.tail.left
 rw [if_neg m2] at h
 by_cases m1:n.kind=-1
 ·rw [if_pos (by omega)]
  rw [if_pos m1] at h
  exact row_code _ _ h.tail
 rw [if_neg m1] at h
 rw [if_neg (by omega)]
 exact row_code _ _ h
theorem rowP_of:∀ (l:List Un) (b:Nat),(∀ c∈rowK l b,c∈P)→RowP P l b
 | [],_,_=>trivial
 | u :: l,b,h=>⟨h _ (by rw [rowK];exact zzH),rowP_of l _ fun c hc=>h c (by rw [rowK];exact zzI _ hc)⟩
theorem altP_of:∀ (l:List Un) (b e:Nat),(∀ c∈altK l b,c∈P)→CodeAt I (altN l b e) b→b+(lensN l+2*(l.length - 1))=e→AltP I P l b e
 | [],_,_,_,_,_=>trivial
 | u :: l,b,e,hk,h,he=>by
  rw [altN] at h
  rw [altK] at hk
  rw [AltP]
  rw [lensN,zzO] at he
  split
  ·rename_i hl
   rw [if_pos hl] at hk
   rw [List.isEmpty_iff.1 hl] at he
   simp only [lensN,List.length_nil] at he
   exact ⟨hk _ zzH,by omega⟩
  ·rename_i hl
   rw [if_neg hl] at hk h
   have hll:1≤l.length:=by
    cases l with
    | nil=>simp at hl
    | cons v l=>simp
   have h2:=h.tail.right (codeN_length u _)
   exact ⟨h.head,hk _ zzH,h2.head,altP_of l _ e (fun c hc=>hk c (zzI _ hc)) h2.tail (by omega)⟩
theorem lensN_one (s:Un):lensN [s]=lenN s:=by simp [lensN]
theorem loc_root {n:Un} {b:Nat} (hw:nodeW n) (hk:∀ c∈kidsB n b,c∈P) (h:CodeAt I (codeN n b) b):Loc I P n b:=by
 have hlen:=codeN_length
 have hle:=lenN_eq n
 rw [codeN_eq] at h
 unfold kidsB at hk
 refine ⟨fun e=>?_,fun e=>?_,fun e=>?_,fun e=>?_,fun s e hs=>?_,fun s e hs=>?_,fun s e hs=>?_,fun s e hs=>?_,fun e=>?_,fun e=>?_⟩
 ·rw [if_pos e] at h
  split at h
  ·rename_i hr;rw [if_pos hr];exact h.head
  ·rename_i hr;rw [if_neg hr];exact h.head
 ·rw [if_neg (by omega),if_pos e] at h
  exact h.head
 ·rw [if_neg (by omega),if_neg (by omega)] at hk
  rw [if_neg (by omega),if_neg (by omega),if_neg (by omega),if_neg (by omega)] at hle
  exact ⟨rowP_of _ _ hk,hle⟩
 ·rw [if_pos e] at hk
  rw [if_neg (by omega),if_neg (by omega),if_pos e] at hle
  rw [if_neg (by omega),if_neg (by omega),if_neg (by omega),if_pos e] at h
  refine altP_of _ _ _ hk (by rw [hle];exact h) (by rw [hle])
 ·rw [if_neg (by omega),if_pos (by omega),hs] at hk
  rw [if_neg (by omega),if_pos (by omega),hs,lensN_one] at hle
  rw [if_neg (by omega),if_neg (by omega),if_pos e,hs] at h
  refine ⟨h.head,hk _ (by rw [rowK];exact zzH),?_,hle⟩
  have:=h.tail.right (n:=lenN s) (by rw [codesN,codesN,zzY,hlen])
  rw [lensN_one] at this
  exact this.head
 ·rw [if_neg (by omega),if_pos (by omega),hs] at hk
  rw [if_neg (by omega),if_neg (by omega),if_neg (by omega),if_pos (by omega),hs,lensN_one] at hle
  rw [if_neg (by omega),if_neg (by omega),if_neg (by omega),if_neg (by omega),if_neg (by omega),if_neg (by omega),if_pos e,hs,lensN_one] at h
  exact ⟨h.head,hk _ (by rw [rowK];exact zzH),hle⟩
 ·rw [if_neg (by omega),if_pos (by omega),hs] at hk
  rw [if_neg (by omega),if_pos (by omega),hs,lensN_one] at hle
  rw [if_neg (by omega),if_neg (by omega),if_neg (by omega),if_neg (by omega),if_neg (by omega),if_pos e,hs,lensN_one] at h
  refine ⟨h.head,hk _ (by rw [rowK];exact zzH),?_,hle⟩
  have:=h.tail.right (n:=lenN s) (by rw [codesN,codesN,zzY,hlen])
  exact this.head
 ·rw [if_neg (by omega),if_neg (by omega),hs] at hk
  rw [if_neg (by omega),if_neg (by omega),if_neg (by omega),if_pos (by omega),hs,lensN_one] at hle
  rw [if_neg (by omega),if_neg (by omega),if_neg (by omega),if_neg (by omega),if_pos e,hs,lensN_one] at h
  have:=h.right (n:=lenN s) (by rw [codesN,codesN,zzY,hlen])
  exact ⟨this.head,hk _ (by rw [rowK];exact zzH),hle⟩
 ·rw [if_neg (by omega),if_neg (by omega),if_neg (by omega),if_neg (by omega),hw.2.1 (by omega)] at hle
  exact hle
 ·rw [if_pos e] at hle
  exact hle
theorem loc_all:∀ (u:Un) (b:Nat),(∀ n∈u.all,nodeW n)→(∀ q∈posB u b,q∈P)→CodeAt I (codeN u b) b→∀ q∈posB u b,Loc I P q.1 q.2:=by
 intro u
 induction u using Un.ind with
 | h u ih =>
  intro b hw hP h q hq
  have hwu:=hw u (by rw [all_subs u];exact zzH)
  have hks:∀ c∈kidsB u b,c.1∈u.subs:=fun c hc=>by rw [←kidsB_fst u b];exact List.mem_map_of_mem hc
  have hkP:∀ c∈kidsB u b,∀ r∈posB c.1 c.2,r∈P:=fun c hc r hr=>hP r (by rw [posB_eq];exact zzI _ (List.mem_flatMap.2 ⟨c,hc,hr⟩))
  rw [posB_eq] at hq
  rcases zzN.1 hq with rfl | hq
  ·exact loc_root hwu (fun c hc=>hkP c hc _ (posB_self _ _)) h
  obtain ⟨c,hc,hq⟩:=List.mem_flatMap.1 hq
  exact ih c.1 (hks c hc) c.2 (fun n hn=>hw n (by rw [all_subs u];exact zzI _ (by rw [allU_flat];exact List.mem_flatMap.2 ⟨_,hks c hc,hn⟩))) (hkP c hc) (kids_code hwu h c hc) q hq
end
end Mean
end Go.Proofs.Ytkhkllpdhnmhkaa
