/- simplify's row of trees: put, tree. -/
import Derived.Deep.AppendLies
import Derived.Deep.RegionHeldLaw
import Derived.Test.YtkhkllpdhnmhkaaP09
import Derived.Test.YtkhkllpdhnmhkaaP11
namespace Go.Proofs.Ytkhkllpdhnmhkaa
open Go.RowKit Tr
structure RowV (B Bo:Nat) (X:List Nat) (rb:Nat) (ty:TypeId) (f:Value→List Value) (v:Value) (us:List Ta) (w:World):Prop where
 blk:Blk w rb ty (f v)
 own:w.ownsRow Bo 25 9 v us.length (rowT us)
 els:∀ u∈us,RT w (Fr B (X++rb :: v.ownBlock.toList) w) u
 sep:v.ownBlock≠some rb
def f1:Value→List Value:=fun v=>[v]
def putA:Ta→List Ta
 | .mk k r ra rc a l sa sc n m z i s=>if k=1 then [] else if k=4 then l else [.mk k r ra rc a l sa sc n m z i s]
theorem putA_tr (t:Ta):trs (putA t)=putT t.tr:=by
 cases t with
 | mk k r ra rc ast l sa sc mn mx z ix nm =>
  rw [putA,Ta.tr]
  by_cases h1:k=1
  ·rw [if_pos h1];exact (if_pos (show (Tr.mk k r ast (trs l) mn mx z ix nm).kind=1 from h1)).symm
  ·by_cases h4:k=4
   ·rw [if_neg h1,if_pos h4];exact ((if_neg (show ¬(Tr.mk k r ast (trs l) mn mx z ix nm).kind=1 from h1)).trans (if_pos (show (Tr.mk k r ast (trs l) mn mx z ix nm).kind=4 from h4))).symm
   ·rw [if_neg h1,if_neg h4];exact ((if_neg (show ¬(Tr.mk k r ast (trs l) mn mx z ix nm).kind=1 from h1)).trans (if_neg (show ¬(Tr.mk k r ast (trs l) mn mx z ix nm).kind=4 from h4))).symm
theorem new_atT (w:World) (t:TypeId) (cs:List Value):∀ j u,cs[j]?=some u→(w.alloc (.cells cs.toArray t)).cell? ((⟨w.heap.size,0,none⟩:Addr).add j)=some u:=by
 intro j u hj
 rw [add_lit,Nat.zero_add]
 exact ((Blk.new w t cs).cell j).trans hj
def zT:Ta:=.mk 0 [] none 0 0 [] none 0 0 0 false 0 ⟨#[]⟩
theorem zT_one:∀ u∈([.int .i64 0,.slice none 0 0,.int .i64 0,.slice none 0 0,.int .i64 0,.int .i64 0,.bool false,.int .i64 0,.string ⟨#[]⟩]:List Value),u.oneCell'=true:=zT.one
theorem zT_at (us:List Ta) (q:Nat) (hq:q < 9):(rowT (us++[zT]))[us.length*9+q]?=zT.vals[q]?:=rowT_get _ _ _ _ (by rw [List.getElem?_append_right (zzF _),Nat.sub_self];rfl) hq
theorem own_zero {w:World} {base:Nat} {v:Value} {n:Nat} {us:List Ta} (h:w.ownsRow base 25 9 v n (rowT us++[.int .i64 0,.slice none 0 0,.int .i64 0,.slice none 0 0,.int .i64 0,.int .i64 0,.bool false,.int .i64 0,.string ⟨#[]⟩])):w.ownsRow base 25 9 v n (rowT (us++[zT])):=by
 rw [rowT_append];exact h
theorem own_cell {w:World} {base:Nat} {e:TypeId} {size n g c:Nat} {xs:List Value} {j:Nat} {u:Value} (h:w.ownsRow base e size (.slice (some ⟨g,0,none⟩) n c) n xs) (hu:xs[j]?=some u):w.cell? ⟨g,j,none⟩=some u:=by
 rcases h.2 with ⟨h0,_⟩ | ⟨g',cap,cur,hv,hb,hh,hnc,hcm,hcs,ht⟩
 ·cases h0
 ·simp only [Value.slice.injEq,zzd,Addr.mk.injEq,and_true] at hv
  obtain ⟨rfl,_⟩:=hv
  rw [cell_of_row w g j cur e (0,0) hh]
  rw [←ht,List.getElem?_take] at hu
  split at hu
  ·simpa using hu
  ·cases hu
theorem own_frozen {w:World} {base:Nat} {e:TypeId} {size n g c:Nat} {xs:List Value} (h:w.ownsRow base e size (.slice (some ⟨g,0,none⟩) n c) n xs) (j:Nat):w.frozen? ⟨g,j,none⟩=false:=by
 rcases h.2 with ⟨h0,_⟩ | ⟨g',cap,cur,hv,hb,hh,hnc,hcm,hcs,ht⟩
 ·cases h0
 ·simp only [Value.slice.injEq,zzd,Addr.mk.injEq,and_true] at hv
  obtain ⟨rfl,_⟩:=hv
  simp [World.frozen?,hh]
theorem at_old {A:Option Addr} {n c g a b:Nat} (h:a≤b) (ha:(Value.slice A n c).ownBlock=some g∨g=b):(Value.slice A n c).ownBlock=some g∨a≤g:=ha.imp id fun e=>by omega
theorem own_set9 {w:World} {base g c n:Nat} {us:List Ta} {i:Nat} (h:w.ownsRow base 25 9 (.slice (some ⟨g,0,none⟩) n c) n (rowT us)) (hi:i < us.length) {k r a s nn m z x nm:Value} {u:Ta} (hu:u.vals=[k,r,a,s,nn,m,z,x,nm]) :
  (((((((((w.setCell ⟨g,i*9,none⟩ k).setCell ⟨g,i*9+1,none⟩ r).setCell ⟨g,i*9+2,none⟩ a).setCell ⟨g,i*9+3,none⟩ s).setCell ⟨g,i*9+4,none⟩ nn).setCell ⟨g,i*9+5,none⟩ m).setCell ⟨g,i*9+6,none⟩ z).setCell ⟨g,i*9+7,none⟩ x).setCell ⟨g,i*9+8,none⟩ nm).ownsRow base 25 9 (.slice (some ⟨g,0,none⟩) n c) n (rowT (us.set i u)):=by
 rcases h.2 with ⟨h0,_⟩ | ⟨g',cap,cur,hv,hb,hh,hnc,hcm,hcs,ht⟩
 ·cases h0
 ·simp only [Value.slice.injEq,zzd,Addr.mk.injEq,and_true] at hv
  obtain ⟨rfl,_,rfl⟩:=hv
  have hb0:Blk w g 25 (rowT us++cur.toList.drop (n*9)):=by
   unfold Blk
   rw [←ht,List.take_append_drop,Array.toArray_toList]
   exact hh
  have hb1:=hb0.set9 hi hu
  have hl0:=h.1
  rw [rowT_length] at hl0
  have hlen:(rowT (us.set i u)++cur.toList.drop (n*9)).length=c*9:=by
   have hcl:cur.toList.length=c*9:=(Array.length_toList (xs:=cur)).trans hcs
   rw [zzG,rowT_length,List.length_set,List.length_drop,hcl]
   have:n*9≤c*9:=Nat.mul_le_mul_right _ hnc
   omega
  have:=hb1.own (base:=base) (size:=9) hb hnc (by unfold maxLen at hcm;omega) hlen
  rwa [List.take_append_of_le_length (by rw [rowT_length,List.length_set];omega),List.take_of_length_le (by rw [rowT_length,List.length_set];omega)] at this
theorem put_fin {B Bo rb g cap c:Nat} {X:List Nat} {A:Option Addr} {us:List Ta} {t:Ta} {w w2 wf:World} {ty:TypeId} {f:Value→List Value} (hr:RowV B Bo X rb ty f (.slice A us.length c) us w) (ht:RT w (Fr B (X++rb :: (Value.slice A us.length c).ownBlock.toList) w) t)
  (hk0:Kept w w2 (Value.slice A us.length c).ownBlock.toList) (hk1:Kept w2 wf [rb,g]) (hgo:(Value.slice A us.length c).ownBlock=some g∨w.heap.size≤g) (hgr:g≠rb)
  (hb:Blk wf rb ty (f (.slice (some ⟨g,0,none⟩) (us.length+1) cap))) (ho:wf.ownsRow Bo 25 9 (.slice (some ⟨g,0,none⟩) (us.length+1) cap) (us.length+1) (rowT (us++[t]))) :
  ∃ v',RowV B Bo X rb ty f v' (us++[t]) wf∧Kept w wf (rb :: (Value.slice A us.length c).ownBlock.toList)∧(v'.ownBlock=(Value.slice A us.length c).ownBlock∨∃ g,v'.ownBlock=some g∧w.heap.size≤g):=by
 have hk:Kept w wf (rb :: (Value.slice A us.length c).ownBlock.toList):=(hk0.trans hk1).more (by
  intro x hx
  rcases zzM.1 hx with h | h
  ·exact .inl (zzI _ h)
  ·simp only [zzN,List.not_mem_nil,or_false] at h
   rcases h with rfl | rfl
   ·exact .inl (by simp)
   ·rcases hgo with h | h
    ·exact .inl (by rw [h];simp)
    ·exact .inr h)
 have hL':∀ x∈X++rb :: ((Value.slice (some ⟨g,0,none⟩) (us.length+1) cap).ownBlock).toList,x∈X++rb :: (Value.slice A us.length c).ownBlock.toList∨w.heap.size≤x∨x < B:=fun x hx=>by
  simp only [Value.ownBlock,Option.toList_some,zzM,zzN,List.not_mem_nil,or_false] at hx
  rcases hx with hx | rfl | rfl
  ·exact .inl (zzW _ hx)
  ·exact .inl (by simp)
  ·rcases hgo with h | h
   ·exact .inl (by rw [h];simp)
   ·exact .inr (.inl h)
 refine ⟨_,⟨hb,by rw [zzG];exact ho,fun u hu=>?_,fun h=>hgr (by simpa [Value.ownBlock] using h)⟩,hk,?_⟩
 ·rcases zzM.1 hu with hu | hu
  ·exact (hr.els u hu).fr_kept hk (fun x hx=>.inl (zzV _ hx)) hL'
  ·simp only [zzE] at hu
   subst hu
   exact ht.fr_kept hk (fun x hx=>.inl (zzV _ hx)) hL'
 ·rcases hgo with h | h
  ·exact .inl h.symm
  ·exact .inr ⟨g,rfl,h⟩
theorem put_finA {B Bo rb g cap c:Nat} {X:List Nat} {A:Option Addr} {us:List Ta} {t:Ta} {w w2:World} (hr:RowV B Bo X rb 108 f1 (.slice A us.length c) us w) (ht:RT w (Fr B (X++rb :: (Value.slice A us.length c).ownBlock.toList) w) t)
  (hk0:Kept w w2 (Value.slice A us.length c).ownBlock.toList) (hgo:(Value.slice A us.length c).ownBlock=some g∨w.heap.size≤g) (hgr:g≠rb) {v0:Value}
  (hb:Blk w2 rb 108 (f1 v0)) (ho:w2.ownsRow Bo 25 9 (.slice (some ⟨g,0,none⟩) (us.length+1) cap) (us.length+1) (rowT (us++[zT]))) {k r a s nn m z x nm:Value} (hu:t.vals=[k,r,a,s,nn,m,z,x,nm]) :
  ∃ v',RowV B Bo X rb 108 f1 v' (us++[t]) ((((((((((w2.setCell ⟨g,us.length*9,none⟩ k).setCell ⟨g,us.length*9+1,none⟩ r).setCell ⟨g,us.length*9+2,none⟩ a).setCell ⟨g,us.length*9+3,none⟩ s).setCell ⟨g,us.length*9+4,none⟩ nn).setCell ⟨g,us.length*9+5,none⟩ m).setCell ⟨g,us.length*9+6,none⟩ z).setCell ⟨g,us.length*9+7,none⟩ x).setCell ⟨g,us.length*9+8,none⟩ nm).setCell ⟨rb,0,none⟩ (.slice (some ⟨g,0,none⟩) (us.length+1) cap))∧Kept w ((((((((((w2.setCell ⟨g,us.length*9,none⟩ k).setCell ⟨g,us.length*9+1,none⟩ r).setCell ⟨g,us.length*9+2,none⟩ a).setCell ⟨g,us.length*9+3,none⟩ s).setCell ⟨g,us.length*9+4,none⟩ nn).setCell ⟨g,us.length*9+5,none⟩ m).setCell ⟨g,us.length*9+6,none⟩ z).setCell ⟨g,us.length*9+7,none⟩ x).setCell ⟨g,us.length*9+8,none⟩ nm).setCell ⟨rb,0,none⟩ (.slice (some ⟨g,0,none⟩) (us.length+1) cap)) (rb :: (Value.slice A us.length c).ownBlock.toList)∧(v'.ownBlock=(Value.slice A us.length c).ownBlock∨∃ g,v'.ownBlock=some g∧w.heap.size≤g):=by
 have hil:us.length < (us++[zT]).length:=by rw [zzG];simp
 have hse:(us++[zT]).set us.length t=us++[t]:=by rw [List.set_append_right _ _ (zzF _),Nat.sub_self];rfl
 refine put_fin (cap:=cap) hr ht hk0 (((kept9 w2 g (us.length*9) k r a s nn m z x nm).trans (Kept.setCell ⟨rb,0,none⟩ _)).more (by intro k hk;simp at hk ⊢;exact .inl hk.symm)) hgo hgr ?_ ?_
 ·exact (hb.kept (kept9 w2 g (us.length*9) k r a s nn m z x nm) (by simpa using hgr.symm)).set_ 0 (.slice (some ⟨g,0,none⟩) (us.length+1) cap)
 ·rw [←hse]
  exact own_kept (own_set9 ho hil hu) (Kept.setCell ⟨rb,0,none⟩ (.slice (some ⟨g,0,none⟩) (us.length+1) cap)) (fun x hx hm=>by simp [Value.ownBlock] at hx hm;exact hgr (by rw [hx,hm]))
theorem put_finB {B Bo rb g cap c:Nat} {X:List Nat} {A:Option Addr} {us:List Ta} {t:Ta} {w w2:World} (hr:RowV B Bo X rb 108 f1 (.slice A us.length c) us w) (ht:RT w (Fr B (X++rb :: (Value.slice A us.length c).ownBlock.toList) w) t)
  (hk0:Kept w w2 (Value.slice A us.length c).ownBlock.toList) (hgo:(Value.slice A us.length c).ownBlock=some g∨w.heap.size≤g) (hgr:g≠rb) {v0:Value}
  (hb:Blk w2 rb 108 (f1 v0)) (ho:w2.ownsRow Bo 25 9 (.slice (some ⟨g,0,none⟩) (us.length+1) cap) (us.length+1) (rowT (us++[zT]))) {k r a s nn m z x nm:Value} (hu:t.vals=[k,r,a,s,nn,m,z,x,nm]) :
  ∃ v',RowV B Bo X rb 108 f1 v' (us++[t]) ((((((((((w2.setCell ⟨rb,0,none⟩ (.slice (some ⟨g,0,none⟩) (us.length+1) cap)).setCell ⟨g,us.length*9,none⟩ k).setCell ⟨g,us.length*9+1,none⟩ r).setCell ⟨g,us.length*9+2,none⟩ a).setCell ⟨g,us.length*9+3,none⟩ s).setCell ⟨g,us.length*9+4,none⟩ nn).setCell ⟨g,us.length*9+5,none⟩ m).setCell ⟨g,us.length*9+6,none⟩ z).setCell ⟨g,us.length*9+7,none⟩ x).setCell ⟨g,us.length*9+8,none⟩ nm)∧Kept w ((((((((((w2.setCell ⟨rb,0,none⟩ (.slice (some ⟨g,0,none⟩) (us.length+1) cap)).setCell ⟨g,us.length*9,none⟩ k).setCell ⟨g,us.length*9+1,none⟩ r).setCell ⟨g,us.length*9+2,none⟩ a).setCell ⟨g,us.length*9+3,none⟩ s).setCell ⟨g,us.length*9+4,none⟩ nn).setCell ⟨g,us.length*9+5,none⟩ m).setCell ⟨g,us.length*9+6,none⟩ z).setCell ⟨g,us.length*9+7,none⟩ x).setCell ⟨g,us.length*9+8,none⟩ nm) (rb :: (Value.slice A us.length c).ownBlock.toList)∧(v'.ownBlock=(Value.slice A us.length c).ownBlock∨∃ g,v'.ownBlock=some g∧w.heap.size≤g):=by
 have hil:us.length < (us++[zT]).length:=by rw [zzG];simp
 have hse:(us++[zT]).set us.length t=us++[t]:=by rw [List.set_append_right _ _ (zzF _),Nat.sub_self];rfl
 refine put_fin (cap:=cap) hr ht hk0 (((Kept.setCell ⟨rb,0,none⟩ _).trans (kept9 _ g (us.length*9) k r a s nn m z x nm)).more (by intro k hk;simp at hk ⊢;exact .inl hk)) hgo hgr ?_ ?_
 ·exact (hb.set_ 0 (.slice (some ⟨g,0,none⟩) (us.length+1) cap)).kept (kept9 _ g (us.length*9) k r a s nn m z x nm) (by simpa using hgr.symm)
 ·rw [←hse]
  exact own_set9 (own_kept ho (Kept.setCell (w:=w2) ⟨rb,0,none⟩ (.slice (some ⟨g,0,none⟩) (us.length+1) cap)) (fun x hx hm=>by simp [Value.ownBlock] at hx hm;exact hgr (by rw [hx,hm]))) hil hu
set_option maxRecDepth 100000 in
set_option maxHeartbeats 2000000 in
theorem put_any (B Bo:Nat) (X:List Nat) (rb:Nat) (v:Value) (us:List Ta) (t:Ta) (w:World) (hr:RowV B Bo X rb 108 f1 v us w) (ht:RT w (Fr B (X++rb :: v.ownBlock.toList) w) t) (hB:Bo≤w.heap.size) (hn:us.length≤1048576) (h4:t.tr.kind=4→0 < t.subs.length) :
  Calls Try.prog 56 #[.pointer (some ⟨rb,0,none⟩),t.val] w fun e w'=>e=.returned (.tuple #[])∧∃ v',RowV B Bo X rb 108 f1 v' (us++putA t) w'∧Kept w w' (rb :: v.ownBlock.toList)∧(v'.ownBlock=v.ownBlock∨∃ g,v'.ownBlock=some g∧w.heap.size≤g):=by
 obtain ⟨i0,hi,hz0,hz1,hz2⟩:=info_parts info_clone_nodes
 obtain ⟨A,c,rfl⟩:=own_shape hr.own
 cases t with
 | mk k r ra rc ast l sa sc mn mx z ix nm =>
 obtain ⟨⟨hR,hrl,hll,hnm⟩,hN,hL⟩:=ht.parts
 have hrb:=hr.blk.lt
 have hba:Below w.heap.size w (w.alloc (.cells #[.int .i64 k,.slice ra r.length rc,.int .i64 ast,.slice sa l.length sc,.int .i64 mn,.int .i64 mx,.bool z,.int .i64 ix,.string nm] 25)):=(zzb _ _).alloc (zzF _) _
 have hways:(k==1)=true∨((k==1)=false∧(k==4)=true)∨((k==1)=false∧(k==4)=false):=by
  cases (k==1) <;> cases (k==4) <;> simp
 rcases hways with h1 | ⟨h1,h2⟩ | ⟨h1,h2⟩
 ·have hk1:k=1:=by simpa using h1
  have hp:putA (Ta.mk k r ra rc ast l sa sc mn mx z ix nm)=[]:=by rw [putA,if_pos hk1]
  rw [hp,zzY]
  have HR:=zzA hr
  have HBA:=zzA hba
  clear hr ht hR hN hL hba hk1 hp
  simp only [Ta.val,Ta.vals]
  go_enter Try.func56,Try.ntmps56
  go_wp2_with fail
  go_end0
  exact ⟨rfl,_,⟨HR.out.blk.below HBA.out HR.out.blk.lt,own_below HR.out.own HBA.out,fun u hu=>(HR.out.els u hu).fr_below HBA.out,HR.out.sep⟩,Kept.of_below HBA.out,.inl rfl⟩
 ·have hk1:¬k=1:=by simpa using h1
  have hk4:k=4:=by simpa using h2
  have hp:putA (Ta.mk k r ra rc ast l sa sc mn mx z ix nm)=l:=by rw [putA,if_neg hk1,if_pos hk4]
  rw [hp]
  have hlp:0 < l.length:=h4 hk4
  clear hk1 hk4 hp
  have hb1:=hr.blk.alloc (.cells #[.int .i64 k,.slice ra r.length rc,.int .i64 ast,.slice sa l.length sc,.int .i64 mn,.int .i64 mx,.bool z,.int .i64 ix,.string nm] 25)
  have ho1:=own_below hr.own hba
  have ht1:=Blk.new w 25 [.int .i64 k,.slice ra r.length rc,.int .i64 ast,.slice sa l.length sc,.int .i64 mn,.int .i64 mx,.bool z,.int .i64 ix,.string nm]
  obtain ⟨b,off,rfl,hSb,hcb⟩:=hN.2.2.2.2 hlp
  have hnews:∀ j u,(rowT l)[j]?=some u→(w.alloc (.cells #[.int .i64 k,.slice ra r.length rc,.int .i64 ast,.slice (some ⟨b,off,none⟩) l.length sc,.int .i64 mn,.int .i64 mx,.bool z,.int .i64 ix,.string nm] 25)).drew.cell? ((⟨b,off,none⟩:Addr).add j)=some u:=fun j u hu=>by
   rw [add_lit]
   exact (hba.cell (p:=⟨b,off+j,none⟩) hSb.2.1).trans (hcb j u hu)
  have hbs:Bo≤(w.alloc (.cells #[.int .i64 k,.slice ra r.length rc,.int .i64 ast,.slice (some ⟨b,off,none⟩) l.length sc,.int .i64 mn,.int .i64 mx,.bool z,.int .i64 ix,.string nm] 25)).drew.heap.size:=zzU hB hba.size
  have hsz1:=hba.size
  simp only [Ta.val,Ta.vals]
  go_enter Try.func56,Try.ntmps56
  go_wp2_with fail
  generalize (w.alloc (.cells #[.int .i64 k,.slice ra r.length rc,.int .i64 ast,.slice (some ⟨b,off,none⟩) l.length sc,.int .i64 mn,.int .i64 mx,.bool z,.int .i64 ix,.string nm] 25))=w1 at *
  have e0:w1.drew.cell? ⟨rb,0,none⟩=some (.slice A us.length c):=hb1.cell 0
  have e3:w1.drew.cell? ⟨w.heap.size,3,none⟩=some (.slice (some ⟨b,off,none⟩) l.length sc):=ht1.cell 3
  have HR:=zzA hr
  have HLL:=zzA hL
  have HBA:=zzA hba
  have HB1:=zzA hb1
  clear hr hL hba hR hN ht hcb
  go_region_law (first
   | (refine step_append_lies _ rfl (.tmp 25) (.tmp 27) 23 rfl Bo 25 i0 (.agg #[.int .i64 0,.slice none 0 0,.int .i64 0,.slice none 0 0,.int .i64 0,.int .i64 0,.bool false,.int .i64 0,.string ⟨#[]⟩]) 9 112 Try.underlying23 hi hz0 hz1 hz2 rfl (by decide) (.slice A us.length c) us.length (rowT us) rfl ho1.drew ⟨b,off,none⟩ l.length sc (rowT l) rfl (rowT_length l) hnews (rowT_one l) hlp (by unfold maxLen;omega) (by omega) hbs _ rfl ?_;intro g cap2 w2 hou2 hg2 hat2 hlt2;have hb2:=HB1.out.drew.grown hg2 HR.out.sep.symm;have q1:w2.cell? ⟨rb,0,none⟩=some (.slice A us.length c):=hb2.cell 0;have q2:=hb2.frozen 0;have q3:=hb2.lt))
  all_goals
   go_wp2_with fail
   go_end0
   have hk:Kept w (w2.setCell ⟨rb,0,none⟩ (.slice (some ⟨g,0,none⟩) (us.length+l.length) cap2)) (rb :: (Value.slice A us.length c).ownBlock.toList) :=
    (((Kept.of_below (L:=[]) HBA.out).trans ((Kept.drew (L:=[])).trans (Kept.of_grown' hg2))).trans (Kept.setCell _ _)).more (by intro k hk;simp at hk ⊢;rcases hk with h | h;exact .inl (.inr h);exact .inl (.inl h))
   have hgo:(Value.slice A us.length c).ownBlock=some g∨w.heap.size≤g:=hat2.imp id fun h=>by rw [h];exact hsz1
   have hgr:g≠rb:=fun e=>by
    rcases hgo with h | h
    ·exact HR.out.sep (by rw [h,e])
    ·omega
   have hL':∀ x∈X++rb :: ((Value.slice (some ⟨g,0,none⟩) (us.length+l.length) cap2).ownBlock).toList,x∈X++rb :: (Value.slice A us.length c).ownBlock.toList∨w.heap.size≤x∨x < B:=fun x hx=>by
    simp only [Value.ownBlock,Option.toList_some,zzM,zzN,List.not_mem_nil,or_false] at hx
    rcases hx with hx | rfl | rfl
    ·exact .inl (zzW _ hx)
    ·exact .inl (by simp)
    ·rcases hgo with h | h
     ·exact .inl (by rw [h];simp)
     ·exact .inr (.inl h)
   refine ⟨rfl,.slice (some ⟨g,0,none⟩) (us.length+l.length) cap2,⟨hb2.set_ 0 _,?_,?_,fun h=>hgr (by simpa [Value.ownBlock] using h)⟩,hk,?_⟩
   ·rw [zzG,rowT_append]
    exact own_kept hou2 (Kept.setCell (w:=w2) ⟨rb,0,none⟩ _) (fun x hx hm=>by simp [Value.ownBlock] at hx hm;exact hgr (by rw [hx,hm]))
   ·intro u hu
    rcases zzM.1 hu with hu | hu
    ·exact (HR.out.els u hu).fr_kept hk (fun x hx=>.inl (zzV _ hx)) hL'
    ·exact (HLL.out u hu).fr_kept hk (fun x hx=>.inl (zzV _ hx)) hL'
   ·rcases hgo with h | h
    ·exact .inl h.symm
    ·exact .inr ⟨g,rfl,h⟩
 ·have hk1:¬k=1:=by simpa using h1
  have hk4:¬k=4:=by simpa using h2
  have hp:putA (Ta.mk k r ra rc ast l sa sc mn mx z ix nm)=[Ta.mk k r ra rc ast l sa sc mn mx z ix nm]:=by rw [putA,if_neg hk1,if_neg hk4]
  rw [hp]
  clear hk1 hk4 hp
  have hb1:=hr.blk.alloc (.cells #[.int .i64 k,.slice ra r.length rc,.int .i64 ast,.slice sa l.length sc,.int .i64 mn,.int .i64 mx,.bool z,.int .i64 ix,.string nm] 25)
  have ho1:=own_below hr.own hba
  have ht1:=Blk.new w 25 [.int .i64 k,.slice ra r.length rc,.int .i64 ast,.slice sa l.length sc,.int .i64 mn,.int .i64 mx,.bool z,.int .i64 ix,.string nm]
  have hbs0:Bo≤(w.alloc (.cells #[.int .i64 k,.slice ra r.length rc,.int .i64 ast,.slice sa l.length sc,.int .i64 mn,.int .i64 mx,.bool z,.int .i64 ix,.string nm] 25)).heap.size:=zzU hB hba.size
  have hsz1:=hba.size
  simp only [Ta.val,Ta.vals]
  go_enter Try.func56,Try.ntmps56
  go_wp2_with fail
  have HT:=zzA ht
  generalize (w.alloc (.cells #[.int .i64 k,.slice ra r.length rc,.int .i64 ast,.slice sa l.length sc,.int .i64 mn,.int .i64 mx,.bool z,.int .i64 ix,.string nm] 25))=w1 at *
  have hb2:=hb1.alloc (.cells #[.int .i64 0,.slice none 0 0,.int .i64 0,.slice none 0 0,.int .i64 0,.int .i64 0,.bool false,.int .i64 0,.string ⟨#[]⟩] 25)
  have ht2:=ht1.alloc (.cells #[.int .i64 0,.slice none 0 0,.int .i64 0,.slice none 0 0,.int .i64 0,.int .i64 0,.bool false,.int .i64 0,.string ⟨#[]⟩] 25)
  have hb12:Below w1.heap.size w1 (w1.alloc (.cells #[.int .i64 0,.slice none 0 0,.int .i64 0,.slice none 0 0,.int .i64 0,.int .i64 0,.bool false,.int .i64 0,.string ⟨#[]⟩] 25)):=(zzb _ _).alloc (zzF _) _
  have ho2:=own_below ho1 hb12
  have hbs:Bo≤(w1.alloc (.cells #[.int .i64 0,.slice none 0 0,.int .i64 0,.slice none 0 0,.int .i64 0,.int .i64 0,.bool false,.int .i64 0,.string ⟨#[]⟩] 25)).drew.heap.size:=zzU hbs0 hb12.size
  have HSZ:=zzA (show w.heap.size≤(w1.alloc (.cells #[.int .i64 0,.slice none 0 0,.int .i64 0,.slice none 0 0,.int .i64 0,.int .i64 0,.bool false,.int .i64 0,.string ⟨#[]⟩] 25)).drew.heap.size from zzU hsz1 hb12.size)
  have e0:w1.drew.cell? ⟨rb,0,none⟩=some (.slice A us.length c):=hb1.cell 0
  have e0':(w1.alloc (.cells #[.int .i64 0,.slice none 0 0,.int .i64 0,.slice none 0 0,.int .i64 0,.int .i64 0,.bool false,.int .i64 0,.string ⟨#[]⟩] 25)).drew.cell? ⟨rb,0,none⟩=some (.slice A us.length c):=hb2.cell 0
  obtain ⟨g0,g1,g2,g3,g4,g5,g6,g7,g8⟩:=bc9 (ht1)
  obtain ⟨f0,f1,f2,f3,f4,f5,f6,f7,f8⟩:=bc9 (ht2)
  have HR:=zzA hr
  have HBA:=zzA hba
  have HB2:=zzA hb2
  have HO2:=zzA ho2
  have HB12:=zzA hb12
  have hlt01:(us.length:Int) < (us.length:Int)+1:=by omega
  clear hr hL hba hR hN ht hb1 hb2 ht1 ht2 ho1 ho2 hb12
  go_region_law (first
   | (refine step_append_lies _ rfl (.tmp 9) (.tmp 12) 23 rfl Bo 25 i0 (.agg #[.int .i64 0,.slice none 0 0,.int .i64 0,.slice none 0 0,.int .i64 0,.int .i64 0,.bool false,.int .i64 0,.string ⟨#[]⟩]) 9 112 Try.underlying23 hi hz0 hz1 hz2 rfl (by decide) (.slice A us.length c) us.length (rowT us) rfl HO2.out.drew ⟨w1.heap.size,0,none⟩ 1 1 [.int .i64 0,.slice none 0 0,.int .i64 0,.slice none 0 0,.int .i64 0,.int .i64 0,.bool false,.int .i64 0,.string ⟨#[]⟩] rfl rfl (new_atT w1 _ [.int .i64 0,.slice none 0 0,.int .i64 0,.slice none 0 0,.int .i64 0,.int .i64 0,.bool false,.int .i64 0,.string ⟨#[]⟩]) zT_one (by decide) (by unfold maxLen;omega) (by omega) hbs _ rfl ?_;intro g cap2 w2 hou2 hg2 hat2 hlt2;have hgo:=at_old HSZ.out hat2;have hgr:g≠rb:=(fun e=>(by rcases hgo with h | h;exact HR.out.sep (by rw [h,e]);omega));have hb2:=HB2.out.drew.grown hg2 HR.out.sep.symm;have q1:w2.cell? ⟨rb,0,none⟩=some (.slice A us.length c):=hb2.cell 0;have q2:=hb2.frozen 0;have q3:=hb2.lt;have HOU:=zzA (own_zero hou2);have HOS:=zzA (own_kept HOU.out (Kept.setCell (w:=w2) ⟨rb,0,none⟩ (.slice (some ⟨g,0,none⟩) (us.length+1) cap2)) (fun x hx hm=>by simp [Value.ownBlock] at hx hm;exact hgr (by rw [hx,hm])));have d0:w2.cell? ⟨g,us.length*9,none⟩=some (.int .i64 0):=own_cell HOU.out (zT_at us 0 (by omega));have e0:=own_frozen HOU.out (us.length*9);have x0:(w2.setCell ⟨rb,0,none⟩ (.slice (some ⟨g,0,none⟩) (us.length+1) cap2)).cell? ⟨g,us.length*9,none⟩=some (.int .i64 0):=own_cell HOS.out (zT_at us 0 (by omega));have y0:=own_frozen HOS.out (us.length*9);have d1:w2.cell? ⟨g,us.length*9+1,none⟩=some (.slice none 0 0):=own_cell HOU.out (zT_at us 1 (by omega));have e1:=own_frozen HOU.out (us.length*9+1);have x1:(w2.setCell ⟨rb,0,none⟩ (.slice (some ⟨g,0,none⟩) (us.length+1) cap2)).cell? ⟨g,us.length*9+1,none⟩=some (.slice none 0 0):=own_cell HOS.out (zT_at us 1 (by omega));have y1:=own_frozen HOS.out (us.length*9+1);have d2:w2.cell? ⟨g,us.length*9+2,none⟩=some (.int .i64 0):=own_cell HOU.out (zT_at us 2 (by omega));have e2:=own_frozen HOU.out (us.length*9+2);have x2:(w2.setCell ⟨rb,0,none⟩ (.slice (some ⟨g,0,none⟩) (us.length+1) cap2)).cell? ⟨g,us.length*9+2,none⟩=some (.int .i64 0):=own_cell HOS.out (zT_at us 2 (by omega));have y2:=own_frozen HOS.out (us.length*9+2);have d3:w2.cell? ⟨g,us.length*9+3,none⟩=some (.slice none 0 0):=own_cell HOU.out (zT_at us 3 (by omega));have e3:=own_frozen HOU.out (us.length*9+3);have x3:(w2.setCell ⟨rb,0,none⟩ (.slice (some ⟨g,0,none⟩) (us.length+1) cap2)).cell? ⟨g,us.length*9+3,none⟩=some (.slice none 0 0):=own_cell HOS.out (zT_at us 3 (by omega));have y3:=own_frozen HOS.out (us.length*9+3);have d4:w2.cell? ⟨g,us.length*9+4,none⟩=some (.int .i64 0):=own_cell HOU.out (zT_at us 4 (by omega));have e4:=own_frozen HOU.out (us.length*9+4);have x4:(w2.setCell ⟨rb,0,none⟩ (.slice (some ⟨g,0,none⟩) (us.length+1) cap2)).cell? ⟨g,us.length*9+4,none⟩=some (.int .i64 0):=own_cell HOS.out (zT_at us 4 (by omega));have y4:=own_frozen HOS.out (us.length*9+4);have d5:w2.cell? ⟨g,us.length*9+5,none⟩=some (.int .i64 0):=own_cell HOU.out (zT_at us 5 (by omega));have e5:=own_frozen HOU.out (us.length*9+5);have x5:(w2.setCell ⟨rb,0,none⟩ (.slice (some ⟨g,0,none⟩) (us.length+1) cap2)).cell? ⟨g,us.length*9+5,none⟩=some (.int .i64 0):=own_cell HOS.out (zT_at us 5 (by omega));have y5:=own_frozen HOS.out (us.length*9+5);have d6:w2.cell? ⟨g,us.length*9+6,none⟩=some (.bool false):=own_cell HOU.out (zT_at us 6 (by omega));have e6:=own_frozen HOU.out (us.length*9+6);have x6:(w2.setCell ⟨rb,0,none⟩ (.slice (some ⟨g,0,none⟩) (us.length+1) cap2)).cell? ⟨g,us.length*9+6,none⟩=some (.bool false):=own_cell HOS.out (zT_at us 6 (by omega));have y6:=own_frozen HOS.out (us.length*9+6);have d7:w2.cell? ⟨g,us.length*9+7,none⟩=some (.int .i64 0):=own_cell HOU.out (zT_at us 7 (by omega));have e7:=own_frozen HOU.out (us.length*9+7);have x7:(w2.setCell ⟨rb,0,none⟩ (.slice (some ⟨g,0,none⟩) (us.length+1) cap2)).cell? ⟨g,us.length*9+7,none⟩=some (.int .i64 0):=own_cell HOS.out (zT_at us 7 (by omega));have y7:=own_frozen HOS.out (us.length*9+7);have d8:w2.cell? ⟨g,us.length*9+8,none⟩=some (.string ⟨#[]⟩):=own_cell HOU.out (zT_at us 8 (by omega));have e8:=own_frozen HOU.out (us.length*9+8);have x8:(w2.setCell ⟨rb,0,none⟩ (.slice (some ⟨g,0,none⟩) (us.length+1) cap2)).cell? ⟨g,us.length*9+8,none⟩=some (.string ⟨#[]⟩):=own_cell HOS.out (zT_at us 8 (by omega));have y8:=own_frozen HOS.out (us.length*9+8);have q5:(((((((((w2.setCell ⟨g,us.length*9,none⟩ (.int .i64 k)).setCell ⟨g,us.length*9+1,none⟩ (.slice ra r.length rc)).setCell ⟨g,us.length*9+2,none⟩ (.int .i64 ast)).setCell ⟨g,us.length*9+3,none⟩ (.slice sa l.length sc)).setCell ⟨g,us.length*9+4,none⟩ (.int .i64 mn)).setCell ⟨g,us.length*9+5,none⟩ (.int .i64 mx)).setCell ⟨g,us.length*9+6,none⟩ (.bool z)).setCell ⟨g,us.length*9+7,none⟩ (.int .i64 ix)).setCell ⟨g,us.length*9+8,none⟩ (.string nm)).cell? ⟨rb,0,none⟩=some (.slice A us.length c):=((kept9 w2 g (us.length*9) (.int .i64 k) (.slice ra r.length rc) (.int .i64 ast) (.slice sa l.length sc) (.int .i64 mn) (.int .i64 mx) (.bool z) (.int .i64 ix) (.string nm)).cell (p:=⟨rb,0,none⟩) q3 (by simpa using hgr.symm)).trans q1;have q6:=(hb2.kept (kept9 w2 g (us.length*9) (.int .i64 k) (.slice ra r.length rc) (.int .i64 ast) (.slice sa l.length sc) (.int .i64 mn) (.int .i64 mx) (.bool z) (.int .i64 ix) (.string nm)) (by simpa using hgr.symm)).frozen 0;have HGO:=zzA hgo;have HGR:=zzA hgr;have HB3:=zzA hb2;have HG2:=zzA hg2;clear hgo hgr hb2 hg2 hou2 hat2))
  all_goals
   have hk0:=((Kept.of_below (L:=[]) HBA.out).trans ((Kept.of_below (L:=[]) HB12.out).trans ((Kept.drew (L:=[])).trans (Kept.of_grown' HG2.out)))).more (M:=(Value.slice A us.length c).ownBlock.toList) (by intro k hk;simp at hk ⊢;exact .inl hk)
   have hu0:(Ta.mk k r ra rc ast l sa sc mn mx z ix nm).vals=[.int .i64 k,.slice ra r.length rc,.int .i64 ast,.slice sa l.length sc,.int .i64 mn,.int .i64 mx,.bool z,.int .i64 ix,.string nm]:=rfl
   go_end0
   refine ⟨rfl,?_⟩
   first
    | with_reducible exact put_finA HR.out HT.out hk0 HGO.out HGR.out HB3.out HOU.out hu0
    | with_reducible exact put_finB HR.out HT.out hk0 HGO.out HGR.out HB3.out HOU.out hu0
end Go.Proofs.Ytkhkllpdhnmhkaa
namespace Go.Proofs.Ytkhkllpdhnmhkaa
open Go.RowKit Mach
variable {X:List Nat}
structure RowI (X:List Nat) (rb:Nat) (ty:TypeId) (v:Value) (L:List InV) (w:World):Prop where
 blk:Blk w rb ty [v]
 own:w.ownsRow rb 51 5 v L.length (insRow L)
 els:∀ u∈L,RdA w (Fr rb ((rb :: v.ownBlock.toList)++X) w) 2 u.A u.n u.c (flat u.I.rng)
 sep:v.ownBlock≠some rb
 xs:∀ x∈X,x < w.heap.size
structure RKI (rb:Nat) (v:Value) (w:World) (v':Value) (w':World):Prop where
 kept:Kept w w' (rb :: v.ownBlock.toList)
 ow:v'.ownBlock=v.ownBlock∨∃ g,v'.ownBlock=some g∧w.heap.size≤g
structure NB (rb g:Nat) (ty:TypeId) (cs:List Value) (v:Value) (w:World):Prop where
 blk:Blk w g ty cs
 ne:g≠rb
 sep:v.ownBlock≠some g
theorem RKI.of_below {rb:Nat} {v:Value} {w w':World} (h:Below w.heap.size w w'):RKI rb v w v w':=⟨Kept.of_below h,.inl rfl⟩
theorem RKI.trans {rb:Nat} {v v1 v2:Value} {w w1 w2:World} (h:RKI rb v w v1 w1) (g:RKI rb v1 w1 v2 w2):RKI rb v w v2 w2:=by
 refine ⟨(h.kept.trans g.kept).more ?_,?_⟩
 ·intro x hx
  rcases zzM.1 hx with hx | hx
  ·exact .inl hx
  ·rcases zzN.1 hx with rfl | hx
   ·exact .inl (by simp)
   ·rcases h.ow with e | ⟨y,e,hy⟩
    ·rw [e] at hx;exact .inl (zzI _ hx)
    ·rw [e] at hx;simp at hx;subst hx;exact .inr hy
 ·rcases g.ow with e | ⟨y,e,hy⟩
  ·rcases h.ow with f | ⟨z,f,hz⟩
   ·exact .inl (e.trans f)
   ·exact .inr ⟨z,e.trans f,hz⟩
  ·exact .inr ⟨y,e,zzU h.kept.size hy⟩
theorem RKI.nb {rb g:Nat} {ty:TypeId} {cs:List Value} {v v1:Value} {w w1:World} (h:RKI rb v w v1 w1) (n:NB rb g ty cs v w):NB rb g ty cs v1 w1:=by
 refine ⟨n.blk.kept h.kept fun hm=>?_,n.ne,fun e=>?_⟩
 ·rcases zzN.1 hm with hm | hm
  ·exact n.ne hm
  ·exact n.sep (by simpa using hm)
 ·rcases h.ow with f | ⟨y,f,hy⟩
  ·exact n.sep (f.symm.trans e)
  ·rw [f] at e
   have:=n.blk.lt
   simp at e
   omega
theorem RowI.new {rb:Nat} {ty ty2:TypeId} {v:Value} {L:List InV} {w:World} (h:RowI X rb ty v L w) (cs:List Value):NB rb w.heap.size ty2 cs v (w.alloc (.cells cs.toArray ty2)):=by
 have:=h.blk.lt
 refine ⟨Blk.new w ty2 cs,by omega,fun e=>?_⟩
 have:=h.own.lt _ e
 omega
theorem RowI.low {rb:Nat} {ty:TypeId} {v v':Value} {L:List InV} {w w':World} (h:RowI X rb ty v L w) (k:RKI rb v w v' w'):Below rb w w' :=
 k.kept.below (fun x hx=>by
  rcases zzN.1 hx with rfl | hx
  ·exact zzF _
  ·have:=h.own.lt x (by simpa using hx);omega) (Nat.le_of_lt h.blk.lt)
theorem insV_one (I:Ins) (A:Option Addr) (n c:Nat):∀ u∈insVals I A n c,u.oneCell'=true:=by
 intro u hu
 simp only [insVals,zzN,List.not_mem_nil,or_false] at hu
 rcases hu with rfl | rfl | rfl | rfl | rfl <;> rfl
theorem insRow_app (a b:List InV):insRow (a++b)=insRow a++insRow b:=by unfold insRow;rw [List.flatMap_append]
theorem insRow_one (v:InV):insRow [v]=insVals v.I v.A v.n v.c:=by unfold insRow;simp
theorem insRow_at (L:List InV) (v:InV) (q:Nat) (hq:q < 5):(insRow (L++[v]))[L.length*5+q]?=(insVals v.I v.A v.n v.c)[q]?:=insRow_get _ _ _ _ (by rw [List.getElem?_append_right (zzF _),Nat.sub_self];rfl) hq
theorem insRow_set {L:List InV} {i q:Nat} {v u:InV} {x:Value} (hv:L[i]?=some v) (hq:q < 5) (hx:(insVals v.I v.A v.n v.c).set q x=insVals u.I u.A u.n u.c):(insRow L).set (i*5+q) x=insRow (L.set i u):=by
 induction L generalizing i with
 | nil=>simp at hv
 | cons a L ih =>
  cases i with
  | zero =>
   simp only [zzR,zzd] at hv
   subst hv
   rw [zzD,Nat.zero_mul,Nat.zero_add]
   show (insVals a.I a.A a.n a.c++insRow L).set q x=insVals u.I u.A u.n u.c++insRow L
   rw [List.set_append_left _ _ (by simpa [insVals] using hq),hx]
  | succ i =>
   rw [zzC]
   show (insVals a.I a.A a.n a.c++insRow L).set ((i+1)*5+q) x=insVals a.I a.A a.n a.c++insRow (L.set i u)
   rw [List.set_append_right _ _ (by simp [insVals];omega),show (i+1)*5+q - (insVals a.I a.A a.n a.c).length=i*5+q from by simp [insVals];omega,ih (by simpa using hv)]
section
variable {w w':World} {rb:Nat} {ty:TypeId} {v:Value} {L:List InV}
theorem RowI.below (h:RowI X rb ty v L w) (hb:Below w.heap.size w w'):RowI X rb ty v L w' :=
 ⟨h.blk.below hb h.blk.lt,own_below h.own hb,fun u hu=>(h.els u hu).fr_below hb,h.sep,fun x hx=>zzQ (h.xs x hx) hb.size⟩
theorem own_set1 {base g c n i:Nat} {e:TypeId} {size:Nat} {xs:List Value} {x:Value} (h:w.ownsRow base e size (.slice (some ⟨g,0,none⟩) n c) n xs) (hi:i < xs.length):(w.setCell ⟨g,i,none⟩ x).ownsRow base e size (.slice (some ⟨g,0,none⟩) n c) n (xs.set i x):=by
 rcases h.2 with ⟨h0,_⟩ | ⟨g',cap,cur,hv,hb,hh,hnc,hcm,hcs,ht⟩
 ·cases h0
 ·simp only [Value.slice.injEq,zzd,Addr.mk.injEq,and_true] at hv
  obtain ⟨rfl,_,rfl⟩:=hv
  have hl:=h.1
  have hb0:Blk w g e (xs++cur.toList.drop (n*size)):=by
   unfold Blk
   rw [←ht,List.take_append_drop,Array.toArray_toList]
   exact hh
  have hb1:=hb0.set_ i x
  have hcl:cur.toList.length=c*size:=(Array.length_toList (xs:=cur)).trans hcs
  have hmul:n*size≤c*size:=Nat.mul_le_mul_right _ hnc
  rw [List.set_append_left _ _ hi] at hb1
  have hlen:(xs.set i x++cur.toList.drop (n*size)).length=c*size:=by
   rw [zzG,List.length_set,List.length_drop,hcl,hl];omega
  have:=hb1.own (base:=base) (size:=size) hb hnc (by unfold maxLen at hcm;omega) hlen
  rwa [List.take_append_of_le_length (by rw [List.length_set,hl];omega),List.take_of_length_le (by rw [List.length_set,hl];omega)] at this
theorem RowI.set_ {g c i q:Nat} {x:Value} {a u:InV} (h:RowI X rb ty (.slice (some ⟨g,0,none⟩) L.length c) L w) (ha:L[i]?=some a) (hq:q < 5) (hx:(insVals a.I a.A a.n a.c).set q x=insVals u.I u.A u.n u.c)
  (hu:RdA w (Fr rb ([rb,g]++X) w) 2 u.A u.n u.c (flat u.I.rng)) :
  RowI X rb ty (.slice (some ⟨g,0,none⟩) (L.set i u).length c) (L.set i u) (w.setCell ⟨g,i*5+q,none⟩ x):=by
 have hil:i < L.length:=(zzK.1 ha).1
 have hgr:g≠rb:=fun e=>h.sep (by rw [e];rfl)
 have hk:=Kept.setCell (w:=w) ⟨g,i*5+q,none⟩ x
 have hM:∀ b∈[g],b∈[rb,g]++X∨w.heap.size≤b∨b < rb:=fun b hb=>by simp at hb;subst hb;exact .inl (by simp)
 have hlt:i*5+q < (insRow L).length:=by rw [insRow_length];omega
 refine ⟨?_,?_,?_,h.sep,fun x hx=>zzQ (h.xs x hx) hk.size⟩
 ·rw [List.length_set];exact h.blk.kept hk (by simpa using hgr.symm)
 ·rw [List.length_set,←insRow_set ha hq hx]
  exact own_set1 h.own hlt
 ·intro z hz
  have hz2:z∈L∨z=u:=List.mem_or_eq_of_mem_set hz
  rcases hz2 with hz2 | rfl
  ·exact (h.els z hz2).fr_kept hk hM (fun b hb=>.inl (by simpa [Value.ownBlock] using hb))
  ·exact hu.fr_kept hk hM (fun b hb=>.inl (by simpa [Value.ownBlock] using hb))
theorem RowI.set_k {g c i:Nat} {x:Value} {n:Nat}:RKI rb (.slice (some ⟨g,0,none⟩) n c) w (.slice (some ⟨g,0,none⟩) n c) (w.setCell ⟨g,i,none⟩ x) :=
 ⟨(Kept.setCell ⟨g,i,none⟩ x).more (by intro k hk;simp at hk;subst hk;exact .inl (by simp [Value.ownBlock])),.inl rfl⟩
theorem RowI.fin {g cap c:Nat} {A:Option Addr} {u:InV} {w2 wf:World} (h:RowI X rb ty (.slice A L.length c) L w) (hu:RdA w (Fr rb ((rb :: (Value.slice A L.length c).ownBlock.toList)++X) w) 2 u.A u.n u.c (flat u.I.rng))
  (hk0:Kept w w2 (Value.slice A L.length c).ownBlock.toList) (hk1:Kept w2 wf [rb,g]) (hgo:(Value.slice A L.length c).ownBlock=some g∨w.heap.size≤g) (hgr:g≠rb)
  (hb:Blk wf rb ty [.slice (some ⟨g,0,none⟩) (L.length+1) cap]) (ho:wf.ownsRow rb 51 5 (.slice (some ⟨g,0,none⟩) (L.length+1) cap) (L.length+1) (insRow (L++[u]))) :
  ∃ v',RowI X rb ty v' (L++[u]) wf∧RKI rb (.slice A L.length c) w v' wf:=by
 have hk:Kept w wf (rb :: (Value.slice A L.length c).ownBlock.toList):=(hk0.trans hk1).more (by
  intro x hx
  rcases zzM.1 hx with h | h
  ·exact .inl (zzI _ h)
  ·simp only [zzN,List.not_mem_nil,or_false] at h
   rcases h with rfl | rfl
   ·exact .inl (by simp)
   ·rcases hgo with h | h
    ·exact .inl (by rw [h];simp)
    ·exact .inr h)
 have hL':∀ x∈(rb :: ((Value.slice (some ⟨g,0,none⟩) (L.length+1) cap).ownBlock).toList)++X,x∈(rb :: (Value.slice A L.length c).ownBlock.toList)++X∨w.heap.size≤x∨x < rb:=fun x hx=>by
  rcases zzM.1 hx with hx | hx
  ·simp only [Value.ownBlock,Option.toList_some,zzN,List.not_mem_nil,or_false] at hx
   rcases hx with rfl | rfl
   ·exact .inl (by simp)
   ·rcases hgo with h | h
    ·exact .inl (by rw [h];simp)
    ·exact .inr (.inl h)
  ·exact .inl (zzV _ hx)
 refine ⟨_,⟨hb,by rw [zzG];exact ho,fun z hz=>?_,fun h=>hgr (by simpa [Value.ownBlock] using h),fun x hx=>zzQ (h.xs x hx) hk.size⟩,⟨hk,?_⟩⟩
 ·rcases zzM.1 hz with hz | hz
  ·exact (h.els z hz).fr_kept hk (fun x hx=>.inl (zzW _ hx)) hL'
  ·simp only [zzE] at hz
   subst hz
   exact hu.fr_kept hk (fun x hx=>.inl (zzW _ hx)) hL'
 ·rcases hgo with e | e
  ·exact .inl e.symm
  ·exact .inr ⟨g,rfl,e⟩
theorem RowI.more {X':List Nat} (h:RowI X rb ty v L w) (hX:∀ x∈X',x∈X):RowI X' rb ty v L w :=
 ⟨h.blk,h.own,fun u hu=>(h.els u hu).mono fun b hb=>⟨hb.1,hb.2.1,fun hm=>hb.2.2 (by
  rcases zzM.1 hm with hm | hm
  ·exact zzW _ hm
  ·exact zzV _ (hX b hm))⟩,h.sep,fun x hx=>h.xs x (hX x hx)⟩
theorem RowI.add {o:Nat} (h:RowI X rb ty v L w) (hb:Below w.heap.size w w') (h1:w.heap.size≤o) (h2:o < w'.heap.size):RowI (o :: X) rb ty v L w' :=
 ⟨h.blk.below hb h.blk.lt,own_below h.own hb,fun u hu=>(h.els u hu).fr_kept (Kept.of_below (L:=[]) hb) (by simp) (fun b hb=>by
  rcases zzM.1 hb with hm | hm
  ·exact .inl (zzW _ hm)
  ·rcases zzN.1 hm with rfl | hm
   ·exact .inr (.inl h1)
   ·exact .inl (zzV _ hm)),h.sep,fun x hx=>by
  rcases zzN.1 hx with rfl | hx
  ·exact h2
  ·exact zzQ (h.xs x hx) hb.size⟩
theorem RowI.free {o:Nat} (h:RowI X rb ty v L w) (hk:Kept w w' [o]) (ho:o∈X) (h1:o≠rb) (h2:v.ownBlock≠some o):RowI X rb ty v L w' :=
 ⟨h.blk.kept hk (by simpa using h1.symm),own_kept h.own hk (fun b hb hm=>by simp at hm;subst hm;exact h2 hb),fun u hu=>(h.els u hu).fr_kept hk (fun b hb=>by simp at hb;subst hb;exact .inl (zzV _ ho)) (fun b hb=>.inl hb),h.sep,fun x hx=>zzQ (h.xs x hx) hk.size⟩
end
end Go.Proofs.Ytkhkllpdhnmhkaa
namespace Go.Proofs.Ytkhkllpdhnmhkaa
open Go.RowKit Tr
set_option maxRecDepth 100000 in
set_option maxHeartbeats 2000000 in
theorem tree_any (B Bo:Nat) (X:List Nat) (rb:Nat) (v:Value) (us:List Ta) (w:World) (hr:RowV B Bo X rb 108 f1 v us w) (hB:B≤Bo) (hX:∀ x∈X,x < Bo) (hn:us.length≤1048576) :
  Calls Try.prog 57 #[.pointer (some ⟨rb,0,none⟩)] w fun e w'=>∃ u:Ta,e=.returned u.val∧u.tr=row (trs us)∧RT w' (Fr B (X++[rb]) w') u∧Below w.heap.size w w':=by
 obtain ⟨A,c,rfl⟩:=own_shape hr.own
 have hrb:=hr.blk.lt
 have hb1:Blk (w.alloc (.cells #[.int .i64 0,.slice none 0 0,.int .i64 0,.slice none 0 0,.int .i64 0,.int .i64 0,.bool false,.int .i64 0,.string ⟨#[]⟩] 25)) rb 108 [.slice A us.length c]:=hr.blk.alloc _
 have c0:(w.alloc (.cells #[.int .i64 0,.slice none 0 0,.int .i64 0,.slice none 0 0,.int .i64 0,.int .i64 0,.bool false,.int .i64 0,.string ⟨#[]⟩] 25)).cell? ⟨rb,0,none⟩=some (.slice A us.length c):=hb1.cell 0
 have hba:Below w.heap.size w (w.alloc (.cells #[.int .i64 0,.slice none 0 0,.int .i64 0,.slice none 0 0,.int .i64 0,.int .i64 0,.bool false,.int .i64 0,.string ⟨#[]⟩] 25)):=(zzb _ _).alloc (zzF _) _
 have hre:=Blk.new w 25 [.int .i64 0,.slice none 0 0,.int .i64 0,.slice none 0 0,.int .i64 0,.int .i64 0,.bool false,.int .i64 0,.string ⟨#[]⟩]
 have hways:us=[]∨(∃ u,us=[u])∨2≤us.length:=by
  match us with
  | []=>exact .inl rfl
  | [u]=>exact .inr (.inl ⟨u,rfl⟩)
  | _ :: _ :: _=>exact .inr (.inr (by simp))
 rcases hways with rfl | ⟨u,rfl⟩ | h2
 ·go_enter Try.func57,Try.ntmps57
  go_wp2_with fail
  refine bodyPost_ret (node_ret rfl _ _ w.heap.size (Ta.mk 1 [] none 0 0 [] none 0 0 0 false 0 ⟨#[]⟩) rfl (Blk.new w _ _)) rfl ?_
  exact ⟨_,rfl,rfl,RT.of ⟨RdA.none_,by simp,by simp,by decide⟩ RdA.none_ (by simp),(zzb _ _).alloc (zzF _) _⟩
 ·obtain ⟨g,rfl,-,hg1,hg2⟩:=own_form hr.own (by simp)
  have hcell:∀ q,q < 9→(w.alloc (.cells #[.int .i64 0,.slice none 0 0,.int .i64 0,.slice none 0 0,.int .i64 0,.int .i64 0,.bool false,.int .i64 0,.string ⟨#[]⟩] 25)).cell? ⟨g,q,none⟩=u.vals[q]?:=fun q hq=>by
   have h1:=rowT_get [u] 0 q u rfl hq
   rw [Nat.zero_mul,Nat.zero_add] at h1
   have h3:q < u.vals.length:=by rw [Ta.vals_length];exact hq
   rw [zzJ h3] at h1 ⊢
   exact (hba.cell (p:=⟨g,q,none⟩) hg2).trans (own_cell hr.own h1)
  have HU:=zzA (hr.els u (by simp))
  have hlt:(0:Int) < (([u]:List Ta).length:Int):=by simp
  clear hr hb1 hba hre hn
  cases u with
  | mk k' r' ra' rc' a' l' sa' sc' n' m' z' i' s' =>
  simp only [Ta.vals] at hcell
  have c1:=hcell 0 (by omega)
  have c2:=hcell 1 (by omega)
  have c3:=hcell 2 (by omega)
  have c4:=hcell 3 (by omega)
  have c5:=hcell 4 (by omega)
  have c6:=hcell 5 (by omega)
  have c7:=hcell 6 (by omega)
  have c8:=hcell 7 (by omega)
  have c9:=hcell 8 (by omega)
  simp only [zzR,zzX] at c1 c2 c3 c4 c5 c6 c7 c8 c9
  clear hcell
  go_enter Try.func57,Try.ntmps57
  go_wp2_with fail
  refine bodyPost_ret (node_ret rfl _ _ w.heap.size (Ta.mk k' r' ra' rc' a' l' sa' sc' n' m' z' i' s') rfl (Blk.new w _ _)) rfl ?_
  exact ⟨_,rfl,rfl,(HU.out.fr_below ((zzb _ _).alloc (zzF _) _)).fr_less (fun b hb=>by simp at hb ⊢;rcases hb with h | h;exact .inl h;exact .inr (.inl h)),(zzb _ _).alloc (zzF _) _⟩
 ·have h0:((us.length:Int)==0)=false:=beq_eq_false_iff_ne.2 (by omega)
  have h1:((us.length:Int)==1)=false:=beq_eq_false_iff_ne.2 (by omega)
  have HR:=zzA hr
  have hrow:row (trs us)=catT (trs us):=by
   have:=trs_length us
   match h:trs us with
   | []=>rw [h] at this;simp at this;omega
   | [x]=>rw [h] at this;simp at this;omega
   | x :: y :: l=>rfl
  have HROW:=zzA hrow
  clear hr hb1 hba hre hrow h2
  go_enter Try.func57,Try.ntmps57
  go_wp2_with fail
  have hb2:Below w.heap.size w (w.alloc (.cells #[.int .i64 4,.slice none 0 0,.int .i64 0,.slice A us.length c,.int .i64 0,.int .i64 0,.bool false,.int .i64 0,.string ⟨#[]⟩] 25)):=(zzb _ _).alloc (zzF _) _
  refine bodyPost_ret (node_ret rfl _ _ w.heap.size (Ta.mk 4 [] none 0 0 us A c 0 0 false 0 ⟨#[]⟩) rfl (Blk.new w _ _)) rfl ?_
  refine ⟨_,rfl,HROW.out.symm,RT.of ⟨RdA.none_,by simp,hn,by decide⟩ ?_ fun u hu=>((HR.out.els u hu).fr_below hb2).fr_less (fun b hb=>by simp at hb ⊢;rcases hb with h | h;exact .inl h;exact .inr (.inl h)),hb2⟩
  obtain ⟨A',c',he,hra⟩:=RdA.of_own (L:=X++[rb]) (own_lower (own_below HR.out.own hb2) hB) (fun b hb hm=>by
   simp at hm
   rcases hm with hm | hm
   ·have:=hX b hm;have:=(HR.out.own.lt b hb).1;omega
   ·subst hm;exact HR.out.sep hb)
  cases he
  exact hra
end Go.Proofs.Ytkhkllpdhnmhkaa
