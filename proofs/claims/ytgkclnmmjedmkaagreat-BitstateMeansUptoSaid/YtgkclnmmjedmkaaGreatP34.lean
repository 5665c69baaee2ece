/- simplify.simple's closure that joins alternatives. -/
import Derived.Deep.AppendLies
import Derived.Deep.RegionHeldLaw
import Derived.Test.YtgkclnmmjedmkaaGreatP33
set_option maxRecDepth 100000
set_option maxHeartbeats 2000000
namespace Go.Proofs.YtgkclnmmjedmkaaGreat
open Go.RowKit Tr
def f2:Value→List Value:=fun v=>[.int .i64 5,.slice none 0 0,.int .i64 0,v,.int .i64 0,.int .i64 0,.bool false,.int .i64 0,.string ⟨#[]⟩]
def putB:Ta→List Ta
 | .mk k r ra rc a l sa sc n m z i s=>if k=5 then l else [.mk k r ra rc a l sa sc n m z i s]
theorem putB_tr (t:Ta):trs (putB t)=altPut t.tr:=by
 cases t with
 | mk k r ra rc ast l sa sc mn mx z ix nm =>
  rw [putB,Ta.tr]
  by_cases h4:k=5
  ·rw [if_pos h4];exact (if_pos (show (Tr.mk k r ast (trs l) mn mx z ix nm).kind=5 from h4)).symm
  ·rw [if_neg h4];exact (if_neg (show ¬(Tr.mk k r ast (trs l) mn mx z ix nm).kind=5 from h4)).symm
theorem alt_finA {B Bo rb g cap c:Nat} {X:List Nat} {A:Option Addr} {us:List Ta} {t:Ta} {w w2:World} (hr:RowV B Bo X rb 25 f2 (.slice A us.length c) us w) (ht:RT w (Fr B (X++rb :: (Value.slice A us.length c).ownBlock.toList) w) t)
  (hk0:Kept w w2 (Value.slice A us.length c).ownBlock.toList) (hgo:(Value.slice A us.length c).ownBlock=some g∨w.heap.size≤g) (hgr:g≠rb) {v0:Value}
  (hb:Blk w2 rb 25 (f2 v0)) (ho:w2.ownsRow Bo 25 9 (.slice (some ⟨g,0,none⟩) (us.length+1) cap) (us.length+1) (rowT (us++[zT]))) {k r a s nn m z x nm:Value} (hu:t.vals=[k,r,a,s,nn,m,z,x,nm]) :
  ∃ v',RowV B Bo X rb 25 f2 v' (us++[t]) ((((((((((w2.setCell ⟨g,us.length*9,none⟩ k).setCell ⟨g,us.length*9+1,none⟩ r).setCell ⟨g,us.length*9+2,none⟩ a).setCell ⟨g,us.length*9+3,none⟩ s).setCell ⟨g,us.length*9+4,none⟩ nn).setCell ⟨g,us.length*9+5,none⟩ m).setCell ⟨g,us.length*9+6,none⟩ z).setCell ⟨g,us.length*9+7,none⟩ x).setCell ⟨g,us.length*9+8,none⟩ nm).setCell ⟨rb,3,none⟩ (.slice (some ⟨g,0,none⟩) (us.length+1) cap))∧Kept w ((((((((((w2.setCell ⟨g,us.length*9,none⟩ k).setCell ⟨g,us.length*9+1,none⟩ r).setCell ⟨g,us.length*9+2,none⟩ a).setCell ⟨g,us.length*9+3,none⟩ s).setCell ⟨g,us.length*9+4,none⟩ nn).setCell ⟨g,us.length*9+5,none⟩ m).setCell ⟨g,us.length*9+6,none⟩ z).setCell ⟨g,us.length*9+7,none⟩ x).setCell ⟨g,us.length*9+8,none⟩ nm).setCell ⟨rb,3,none⟩ (.slice (some ⟨g,0,none⟩) (us.length+1) cap)) (rb :: (Value.slice A us.length c).ownBlock.toList)∧(v'.ownBlock=(Value.slice A us.length c).ownBlock∨∃ g,v'.ownBlock=some g∧w.heap.size≤g):=by
 have hil:us.length < (us++[zT]).length:=by rw [zzG];simp
 have hse:(us++[zT]).set us.length t=us++[t]:=by rw [List.set_append_right _ _ (zzF _),Nat.sub_self];rfl
 refine put_fin (cap:=cap) hr ht hk0 (((kept9 w2 g (us.length*9) k r a s nn m z x nm).trans (zyG ⟨rb,3,none⟩ _)).more (by intro k hk;simp at hk ⊢;exact .inl hk.symm)) hgo hgr ?_ ?_
 ·exact (hb.kept (kept9 w2 g (us.length*9) k r a s nn m z x nm) (by simpa using hgr.symm)).set_ 3 (.slice (some ⟨g,0,none⟩) (us.length+1) cap)
 ·rw [←hse]
  exact own_kept (own_set9 ho hil hu) (zyG ⟨rb,3,none⟩ (.slice (some ⟨g,0,none⟩) (us.length+1) cap)) (fun x hx hm=>by simp [Value.ownBlock] at hx hm;exact hgr (by rw [hx,hm]))
theorem alt_finB {B Bo rb g cap c:Nat} {X:List Nat} {A:Option Addr} {us:List Ta} {t:Ta} {w w2:World} (hr:RowV B Bo X rb 25 f2 (.slice A us.length c) us w) (ht:RT w (Fr B (X++rb :: (Value.slice A us.length c).ownBlock.toList) w) t)
  (hk0:Kept w w2 (Value.slice A us.length c).ownBlock.toList) (hgo:(Value.slice A us.length c).ownBlock=some g∨w.heap.size≤g) (hgr:g≠rb) {v0:Value}
  (hb:Blk w2 rb 25 (f2 v0)) (ho:w2.ownsRow Bo 25 9 (.slice (some ⟨g,0,none⟩) (us.length+1) cap) (us.length+1) (rowT (us++[zT]))) {k r a s nn m z x nm:Value} (hu:t.vals=[k,r,a,s,nn,m,z,x,nm]) :
  ∃ v',RowV B Bo X rb 25 f2 v' (us++[t]) ((((((((((w2.setCell ⟨rb,3,none⟩ (.slice (some ⟨g,0,none⟩) (us.length+1) cap)).setCell ⟨g,us.length*9,none⟩ k).setCell ⟨g,us.length*9+1,none⟩ r).setCell ⟨g,us.length*9+2,none⟩ a).setCell ⟨g,us.length*9+3,none⟩ s).setCell ⟨g,us.length*9+4,none⟩ nn).setCell ⟨g,us.length*9+5,none⟩ m).setCell ⟨g,us.length*9+6,none⟩ z).setCell ⟨g,us.length*9+7,none⟩ x).setCell ⟨g,us.length*9+8,none⟩ nm)∧Kept w ((((((((((w2.setCell ⟨rb,3,none⟩ (.slice (some ⟨g,0,none⟩) (us.length+1) cap)).setCell ⟨g,us.length*9,none⟩ k).setCell ⟨g,us.length*9+1,none⟩ r).setCell ⟨g,us.length*9+2,none⟩ a).setCell ⟨g,us.length*9+3,none⟩ s).setCell ⟨g,us.length*9+4,none⟩ nn).setCell ⟨g,us.length*9+5,none⟩ m).setCell ⟨g,us.length*9+6,none⟩ z).setCell ⟨g,us.length*9+7,none⟩ x).setCell ⟨g,us.length*9+8,none⟩ nm) (rb :: (Value.slice A us.length c).ownBlock.toList)∧(v'.ownBlock=(Value.slice A us.length c).ownBlock∨∃ g,v'.ownBlock=some g∧w.heap.size≤g):=by
 have hil:us.length < (us++[zT]).length:=by rw [zzG];simp
 have hse:(us++[zT]).set us.length t=us++[t]:=by rw [List.set_append_right _ _ (zzF _),Nat.sub_self];rfl
 refine put_fin (cap:=cap) hr ht hk0 (((zyG ⟨rb,3,none⟩ _).trans (kept9 _ g (us.length*9) k r a s nn m z x nm)).more (by intro k hk;simp at hk ⊢;exact .inl hk)) hgo hgr ?_ ?_
 ·exact (hb.set_ 3 (.slice (some ⟨g,0,none⟩) (us.length+1) cap)).kept (kept9 _ g (us.length*9) k r a s nn m z x nm) (by simpa using hgr.symm)
 ·rw [←hse]
  exact own_set9 (own_kept ho (zyG (w:=w2) ⟨rb,3,none⟩ (.slice (some ⟨g,0,none⟩) (us.length+1) cap)) (fun x hx hm=>by simp [Value.ownBlock] at hx hm;exact hgr (by rw [hx,hm]))) hil hu
theorem alt_any (B Bo:Nat) (X:List Nat) (rb:Nat) (v:Value) (us:List Ta) (t:Ta) (w:World) (hr:RowV B Bo X rb 25 f2 v us w) (ht:RT w (Fr B (X++rb :: v.ownBlock.toList) w) t) (hB:Bo≤w.heap.size) (hn:us.length≤1048576) (h4:t.tr.kind=5→0 < t.subs.length) :
  Calls Tryz.prog 74 #[t.val,.pointer (some ⟨rb,0,none⟩)] w fun e w'=>e=.returned (.tuple #[])∧∃ v',RowV B Bo X rb 25 f2 v' (us++putB t) w'∧Kept w w' (rb :: v.ownBlock.toList)∧(v'.ownBlock=v.ownBlock∨∃ g,v'.ownBlock=some g∧w.heap.size≤g):=by
 obtain ⟨i0,hi,hz0,hz1,hz2⟩:=info_parts info_clone_nodes
 obtain ⟨A,c,rfl⟩:=own_shape hr.own
 cases t with
 | mk k r ra rc ast l sa sc mn mx z ix nm =>
 obtain ⟨⟨hR,hrl,hll,hnm⟩,hN,hL⟩:=ht.parts
 have hrb:=hr.blk.lt
 have hba:Below w.heap.size w (w.alloc (.cells #[.int .i64 k,.slice ra r.length rc,.int .i64 ast,.slice sa l.length sc,.int .i64 mn,.int .i64 mx,.bool z,.int .i64 ix,.string nm] 25)):=(zzb _ _).alloc (zzF _) _
 have hways:(k==5)=true∨(k==5)=false:=by
  cases (k==5) <;> simp
 rcases hways with h2 | h2
 ·have hk4:k=5:=by simpa using h2
  have hp:putB (Ta.mk k r ra rc ast l sa sc mn mx z ix nm)=l:=by rw [putB,if_pos hk4]
  rw [hp]
  have hlp:0 < l.length:=h4 hk4
  clear hk4 hp
  have hb1:=hr.blk.alloc (.cells #[.int .i64 k,.slice ra r.length rc,.int .i64 ast,.slice sa l.length sc,.int .i64 mn,.int .i64 mx,.bool z,.int .i64 ix,.string nm] 25)
  have ho1:=own_below hr.own hba
  have ht1:=zyI w 25 [.int .i64 k,.slice ra r.length rc,.int .i64 ast,.slice sa l.length sc,.int .i64 mn,.int .i64 mx,.bool z,.int .i64 ix,.string nm]
  obtain ⟨b,off,rfl,hSb,hcb⟩:=hN.2.2.2.2 hlp
  have hnews:∀ j u,(rowT l)[j]?=some u→(w.alloc (.cells #[.int .i64 k,.slice ra r.length rc,.int .i64 ast,.slice (some ⟨b,off,none⟩) l.length sc,.int .i64 mn,.int .i64 mx,.bool z,.int .i64 ix,.string nm] 25)).cell? ((⟨b,off,none⟩:Addr).add j)=some u:=fun j u hu=>by
   rw [add_lit]
   exact (hba.cell (p:=⟨b,off+j,none⟩) hSb.2.1).trans (hcb j u hu)
  have hbs:Bo≤(w.alloc (.cells #[.int .i64 k,.slice ra r.length rc,.int .i64 ast,.slice (some ⟨b,off,none⟩) l.length sc,.int .i64 mn,.int .i64 mx,.bool z,.int .i64 ix,.string nm] 25)).heap.size:=zzU hB hba.size
  have hsz1:=hba.size
  have e0:(w.alloc (.cells #[.int .i64 k,.slice ra r.length rc,.int .i64 ast,.slice (some ⟨b,off,none⟩) l.length sc,.int .i64 mn,.int .i64 mx,.bool z,.int .i64 ix,.string nm] 25)).cell? ⟨rb,3,none⟩=some (.slice A us.length c):=hb1.cell 3
  have HR:=zzA hr
  have HLL:=zzA hL
  have HBA:=zzA hba
  have HB1:=zzA hb1
  have HO1:=zzA ho1
  have HNW:=zzA hnews
  clear hr hL hba hR hN ht hcb hb1 ho1 ht1 hnews
  simp only [Ta.val,Ta.vals]
  go_enter Tryz.func74,Tryz.ntmps74
  go_wp2_with (at_builtin;refine wpList_append_lies _ rfl (.tmp 7) (.tmp 9) 23 rfl Bo 25 i0 (.agg #[.int .i64 0,.slice none 0 0,.int .i64 0,.slice none 0 0,.int .i64 0,.int .i64 0,.bool false,.int .i64 0,.string ⟨#[]⟩]) 9 112 Tryz.underlying23 hi hz0 hz1 hz2 rfl (by decide) (.slice A us.length c) us.length (rowT us) rfl HO1.out ⟨b,off,none⟩ l.length sc (rowT l) rfl (rowT_length l) HNW.out (rowT_one l) hlp (by unfold maxLen;omega) (by omega) hbs _ rfl ?_;intro g cap2 w2 hou2 hg2 hat2 hlt2;have HB2:=zzA (HB1.out.grown hg2 HR.out.sep.symm);have q1:w2.cell? ⟨rb,3,none⟩=some (.slice A us.length c):=HB2.out.cell 3;have q2:=HB2.out.frozen 3;have q3:=HB2.out.lt;have HOU:=zzA hou2;have HG2:=zzA hg2;have HAT:=zzA hat2;clear hou2 hg2 hat2)
  all_goals
   go_end0
   have hou2:=HOU.out
   have hg2:=HG2.out
   have hat2:=HAT.out
   have hb2:=HB2.out
   have hk:Kept w (w2.setCell ⟨rb,3,none⟩ (.slice (some ⟨g,0,none⟩) (us.length+l.length) cap2)) (rb :: (Value.slice A us.length c).ownBlock.toList) :=
    (((Kept.of_below (L:=[]) HBA.out).trans (Kept.of_grown' hg2)).trans (zyG _ _)).more (by intro k hk;simp at hk ⊢;rcases hk with h | h;exact .inl (.inr h);exact .inl (.inl h))
   have hgo:(Value.slice A us.length c).ownBlock=some g∨w.heap.size≤g:=hat2.imp id fun h=>by rw [h];exact hsz1
   have hgr:g≠rb:=fun e=>by
    rcases hgo with h | h
    ·exact HR.out.sep (by rw [h,e])
    ·omega
   have hL':∀ x∈X++rb :: ((Value.slice (some ⟨g,0,none⟩) (us.length+l.length) cap2).ownBlock).toList,x∈X++rb :: (Value.slice A us.length c).ownBlock.toList∨w.heap.size≤x∨x < B:=fun x hx=>by
    simp only [Value.ownBlock,Option.toList_some,zzM,zzN,zyA,or_false] at hx
    rcases hx with hx | rfl | rfl
    ·exact .inl (zzW _ hx)
    ·exact .inl (by simp)
    ·rcases hgo with h | h
     ·exact .inl (by rw [h];simp)
     ·exact .inr (.inl h)
   refine ⟨rfl,.slice (some ⟨g,0,none⟩) (us.length+l.length) cap2,⟨hb2.set_ 3 _,?_,?_,fun h=>hgr (by simpa [Value.ownBlock] using h)⟩,hk,?_⟩
   ·rw [zzG,rowT_append]
    exact own_kept hou2 (zyG (w:=w2) ⟨rb,3,none⟩ _) (fun x hx hm=>by simp [Value.ownBlock] at hx hm;exact hgr (by rw [hx,hm]))
   ·intro u hu
    rcases zzM.1 hu with hu | hu
    ·exact (HR.out.els u hu).fr_kept hk (fun x hx=>.inl (zzV _ hx)) hL'
    ·exact (HLL.out u hu).fr_kept hk (fun x hx=>.inl (zzV _ hx)) hL'
   ·rcases hgo with h | h
    ·exact .inl h.symm
    ·exact .inr ⟨g,rfl,h⟩
 ·have hk4:¬k=5:=by simpa using h2
  have hp:putB (Ta.mk k r ra rc ast l sa sc mn mx z ix nm)=[Ta.mk k r ra rc ast l sa sc mn mx z ix nm]:=by rw [putB,if_neg hk4]
  rw [hp]
  clear hk4 hp
  have hb1:=hr.blk.alloc (.cells #[.int .i64 k,.slice ra r.length rc,.int .i64 ast,.slice sa l.length sc,.int .i64 mn,.int .i64 mx,.bool z,.int .i64 ix,.string nm] 25)
  have ho1:=own_below hr.own hba
  have ht1:=zyI w 25 [.int .i64 k,.slice ra r.length rc,.int .i64 ast,.slice sa l.length sc,.int .i64 mn,.int .i64 mx,.bool z,.int .i64 ix,.string nm]
  have hbs0:Bo≤(w.alloc (.cells #[.int .i64 k,.slice ra r.length rc,.int .i64 ast,.slice sa l.length sc,.int .i64 mn,.int .i64 mx,.bool z,.int .i64 ix,.string nm] 25)).heap.size:=zzU hB hba.size
  have hsz1:=hba.size
  simp only [Ta.val,Ta.vals]
  go_enter Tryz.func74,Tryz.ntmps74
  go_wp2_with fail
  have HT:=zzA ht
  generalize (w.alloc (.cells #[.int .i64 k,.slice ra r.length rc,.int .i64 ast,.slice sa l.length sc,.int .i64 mn,.int .i64 mx,.bool z,.int .i64 ix,.string nm] 25))=w1 at *
  have hb2:=hb1.alloc (.cells #[.int .i64 0,.slice none 0 0,.int .i64 0,.slice none 0 0,.int .i64 0,.int .i64 0,.bool false,.int .i64 0,.string ⟨#[]⟩] 25)
  have ht2:=ht1.alloc (.cells #[.int .i64 0,.slice none 0 0,.int .i64 0,.slice none 0 0,.int .i64 0,.int .i64 0,.bool false,.int .i64 0,.string ⟨#[]⟩] 25)
  have hb12:Below w1.heap.size w1 (w1.alloc (.cells #[.int .i64 0,.slice none 0 0,.int .i64 0,.slice none 0 0,.int .i64 0,.int .i64 0,.bool false,.int .i64 0,.string ⟨#[]⟩] 25)):=(zzb _ _).alloc (zzF _) _
  have ho2:=own_below ho1 hb12
  have hbs:Bo≤(w1.alloc (.cells #[.int .i64 0,.slice none 0 0,.int .i64 0,.slice none 0 0,.int .i64 0,.int .i64 0,.bool false,.int .i64 0,.string ⟨#[]⟩] 25)).drew.heap.size:=zzU hbs0 hb12.size
  have HSZ:=zzA (show w.heap.size≤(w1.alloc (.cells #[.int .i64 0,.slice none 0 0,.int .i64 0,.slice none 0 0,.int .i64 0,.int .i64 0,.bool false,.int .i64 0,.string ⟨#[]⟩] 25)).drew.heap.size from zzU hsz1 hb12.size)
  have e0:w1.drew.cell? ⟨rb,3,none⟩=some (.slice A us.length c):=hb1.cell 3
  have e0':(w1.alloc (.cells #[.int .i64 0,.slice none 0 0,.int .i64 0,.slice none 0 0,.int .i64 0,.int .i64 0,.bool false,.int .i64 0,.string ⟨#[]⟩] 25)).drew.cell? ⟨rb,3,none⟩=some (.slice A us.length c):=hb2.cell 3
  obtain ⟨g0,g1,g2,g3,g4,g5,g6,g7,g8⟩:=bc9 (ht1)
  obtain ⟨f0,f2,f2,f3,f4,f5,f6,f7,f8⟩:=bc9 (ht2)
  have HR:=zzA hr
  have HBA:=zzA hba
  have HB2:=zzA hb2
  have HO2:=zzA ho2
  have HB12:=zzA hb12
  have hlt01:(us.length:Int) < (us.length:Int)+1:=by omega
  clear hr hL hba hR hN ht hb1 hb2 ht1 ht2 ho1 ho2 hb12
  go_region_law (first
   | (refine step_append_lies _ rfl (.tmp 13) (.tmp 16) 23 rfl Bo 25 i0 (.agg #[.int .i64 0,.slice none 0 0,.int .i64 0,.slice none 0 0,.int .i64 0,.int .i64 0,.bool false,.int .i64 0,.string ⟨#[]⟩]) 9 112 Tryz.underlying23 hi hz0 hz1 hz2 rfl (by decide) (.slice A us.length c) us.length (rowT us) rfl HO2.out.drew ⟨w1.heap.size,0,none⟩ 1 1 [.int .i64 0,.slice none 0 0,.int .i64 0,.slice none 0 0,.int .i64 0,.int .i64 0,.bool false,.int .i64 0,.string ⟨#[]⟩] rfl rfl (new_atT w1 _ [.int .i64 0,.slice none 0 0,.int .i64 0,.slice none 0 0,.int .i64 0,.int .i64 0,.bool false,.int .i64 0,.string ⟨#[]⟩]) zT_one (by decide) (by unfold maxLen;omega) (by omega) hbs _ rfl ?_;intro g cap2 w2 hou2 hg2 hat2 hlt2;have hgo:=at_old HSZ.out hat2;have hgr:g≠rb:=(fun e=>(by rcases hgo with h | h;exact HR.out.sep (by rw [h,e]);omega));have hb2:=HB2.out.drew.grown hg2 HR.out.sep.symm;have q1:w2.cell? ⟨rb,3,none⟩=some (.slice A us.length c):=hb2.cell 3;have q2:=hb2.frozen 3;have q3:=hb2.lt;have HOU:=zzA (own_zero hou2);have HOS:=zzA (own_kept HOU.out (zyG (w:=w2) ⟨rb,3,none⟩ (.slice (some ⟨g,0,none⟩) (us.length+1) cap2)) (fun x hx hm=>by simp [Value.ownBlock] at hx hm;exact hgr (by rw [hx,hm])));have d0:w2.cell? ⟨g,us.length*9,none⟩=some (.int .i64 0):=own_cell HOU.out (zT_at us 0 (by omega));have e0:=own_frozen HOU.out (us.length*9);have x0:(w2.setCell ⟨rb,3,none⟩ (.slice (some ⟨g,0,none⟩) (us.length+1) cap2)).cell? ⟨g,us.length*9,none⟩=some (.int .i64 0):=own_cell HOS.out (zT_at us 0 (by omega));have y0:=own_frozen HOS.out (us.length*9);have d1:w2.cell? ⟨g,us.length*9+1,none⟩=some (.slice none 0 0):=own_cell HOU.out (zT_at us 1 (by omega));have e1:=own_frozen HOU.out (us.length*9+1);have x1:(w2.setCell ⟨rb,3,none⟩ (.slice (some ⟨g,0,none⟩) (us.length+1) cap2)).cell? ⟨g,us.length*9+1,none⟩=some (.slice none 0 0):=own_cell HOS.out (zT_at us 1 (by omega));have y1:=own_frozen HOS.out (us.length*9+1);have d2:w2.cell? ⟨g,us.length*9+2,none⟩=some (.int .i64 0):=own_cell HOU.out (zT_at us 2 (by omega));have e2:=own_frozen HOU.out (us.length*9+2);have x2:(w2.setCell ⟨rb,3,none⟩ (.slice (some ⟨g,0,none⟩) (us.length+1) cap2)).cell? ⟨g,us.length*9+2,none⟩=some (.int .i64 0):=own_cell HOS.out (zT_at us 2 (by omega));have y2:=own_frozen HOS.out (us.length*9+2);have d3:w2.cell? ⟨g,us.length*9+3,none⟩=some (.slice none 0 0):=own_cell HOU.out (zT_at us 3 (by omega));have e3:=own_frozen HOU.out (us.length*9+3);have x3:(w2.setCell ⟨rb,3,none⟩ (.slice (some ⟨g,0,none⟩) (us.length+1) cap2)).cell? ⟨g,us.length*9+3,none⟩=some (.slice none 0 0):=own_cell HOS.out (zT_at us 3 (by omega));have y3:=own_frozen HOS.out (us.length*9+3);have d4:w2.cell? ⟨g,us.length*9+4,none⟩=some (.int .i64 0):=own_cell HOU.out (zT_at us 4 (by omega));have e4:=own_frozen HOU.out (us.length*9+4);have x4:(w2.setCell ⟨rb,3,none⟩ (.slice (some ⟨g,0,none⟩) (us.length+1) cap2)).cell? ⟨g,us.length*9+4,none⟩=some (.int .i64 0):=own_cell HOS.out (zT_at us 4 (by omega));have y4:=own_frozen HOS.out (us.length*9+4);have d5:w2.cell? ⟨g,us.length*9+5,none⟩=some (.int .i64 0):=own_cell HOU.out (zT_at us 5 (by omega));have e5:=own_frozen HOU.out (us.length*9+5);have x5:(w2.setCell ⟨rb,3,none⟩ (.slice (some ⟨g,0,none⟩) (us.length+1) cap2)).cell? ⟨g,us.length*9+5,none⟩=some (.int .i64 0):=own_cell HOS.out (zT_at us 5 (by omega));have y5:=own_frozen HOS.out (us.length*9+5);have d6:w2.cell? ⟨g,us.length*9+6,none⟩=some (.bool false):=own_cell HOU.out (zT_at us 6 (by omega));have e6:=own_frozen HOU.out (us.length*9+6);have x6:(w2.setCell ⟨rb,3,none⟩ (.slice (some ⟨g,0,none⟩) (us.length+1) cap2)).cell? ⟨g,us.length*9+6,none⟩=some (.bool false):=own_cell HOS.out (zT_at us 6 (by omega));have y6:=own_frozen HOS.out (us.length*9+6);have d7:w2.cell? ⟨g,us.length*9+7,none⟩=some (.int .i64 0):=own_cell HOU.out (zT_at us 7 (by omega));have e7:=own_frozen HOU.out (us.length*9+7);have x7:(w2.setCell ⟨rb,3,none⟩ (.slice (some ⟨g,0,none⟩) (us.length+1) cap2)).cell? ⟨g,us.length*9+7,none⟩=some (.int .i64 0):=own_cell HOS.out (zT_at us 7 (by omega));have y7:=own_frozen HOS.out (us.length*9+7);have d8:w2.cell? ⟨g,us.length*9+8,none⟩=some (.string ⟨#[]⟩):=own_cell HOU.out (zT_at us 8 (by omega));have e8:=own_frozen HOU.out (us.length*9+8);have x8:(w2.setCell ⟨rb,3,none⟩ (.slice (some ⟨g,0,none⟩) (us.length+1) cap2)).cell? ⟨g,us.length*9+8,none⟩=some (.string ⟨#[]⟩):=own_cell HOS.out (zT_at us 8 (by omega));have y8:=own_frozen HOS.out (us.length*9+8);have q5:(((((((((w2.setCell ⟨g,us.length*9,none⟩ (.int .i64 k)).setCell ⟨g,us.length*9+1,none⟩ (.slice ra r.length rc)).setCell ⟨g,us.length*9+2,none⟩ (.int .i64 ast)).setCell ⟨g,us.length*9+3,none⟩ (.slice sa l.length sc)).setCell ⟨g,us.length*9+4,none⟩ (.int .i64 mn)).setCell ⟨g,us.length*9+5,none⟩ (.int .i64 mx)).setCell ⟨g,us.length*9+6,none⟩ (.bool z)).setCell ⟨g,us.length*9+7,none⟩ (.int .i64 ix)).setCell ⟨g,us.length*9+8,none⟩ (.string nm)).cell? ⟨rb,3,none⟩=some (.slice A us.length c):=((kept9 w2 g (us.length*9) (.int .i64 k) (.slice ra r.length rc) (.int .i64 ast) (.slice sa l.length sc) (.int .i64 mn) (.int .i64 mx) (.bool z) (.int .i64 ix) (.string nm)).cell (p:=⟨rb,3,none⟩) q3 (by simpa using hgr.symm)).trans q1;have q6:=(hb2.kept (kept9 w2 g (us.length*9) (.int .i64 k) (.slice ra r.length rc) (.int .i64 ast) (.slice sa l.length sc) (.int .i64 mn) (.int .i64 mx) (.bool z) (.int .i64 ix) (.string nm)) (by simpa using hgr.symm)).frozen 3;have HGO:=zzA hgo;have HGR:=zzA hgr;have HB3:=zzA hb2;have HG2:=zzA hg2;clear hgo hgr hb2 hg2 hou2 hat2))
  all_goals
   have hk0:=((Kept.of_below (L:=[]) HBA.out).trans ((Kept.of_below (L:=[]) HB12.out).trans ((Kept.drew (L:=[])).trans (Kept.of_grown' HG2.out)))).more (M:=(Value.slice A us.length c).ownBlock.toList) (by intro k hk;simp at hk ⊢;exact .inl hk)
   have hu0:(Ta.mk k r ra rc ast l sa sc mn mx z ix nm).vals=[.int .i64 k,.slice ra r.length rc,.int .i64 ast,.slice sa l.length sc,.int .i64 mn,.int .i64 mx,.bool z,.int .i64 ix,.string nm]:=rfl
   go_end0
   refine ⟨rfl,?_⟩
   first
    | with_reducible exact alt_finA HR.out HT.out hk0 HGO.out HGR.out HB3.out HOU.out hu0
    | with_reducible exact alt_finB HR.out HT.out hk0 HGO.out HGR.out HB3.out HOU.out hu0
end Go.Proofs.YtgkclnmmjedmkaaGreat
namespace Go.Proofs.YtgkclnmmjedmkaaGreat
open Go.RowKit Mach
variable {X:List Nat}
theorem info_inst:(Tryz.prog.info? 62).map (fun i=>(i.zero,i.size,i.bytes))=some (some (.agg #[.int .i64 0,.int .i64 0,.int .i64 0,.int .i64 0,.slice none 0 0]),5,56):=by kernel_rfl
theorem next_any (rb:Nat) (v:Value) (L:List InV) (w:World) (h:RowI X rb 57 v L w) :
  Calls Tryz.prog 44 #[.pointer (some ⟨rb,0,none⟩)] w fun e w'=>e=.returned (.int .i64 L.length)∧w'=w:=by
 obtain ⟨A,c,rfl⟩:=own_shape h.own
 have e0:w.cell? ⟨rb,0,none⟩=some (.slice A L.length c):=h.blk.cell 0
 clear h
 go_enter Tryz.func44,Tryz.ntmps44
 go_wp2_with fail
 go_ret
 exact ⟨rfl,rfl⟩
theorem full_any (rb:Nat) (v:Value) (L:List InV) (w:World) (h:RowI X rb 57 v L w) :
  Calls Tryz.prog 22 #[.pointer (some ⟨rb,0,none⟩)] w fun e w'=>e=.returned (.bool (decide (20000 < L.length)))∧w'=w:=by
 obtain ⟨A,c,rfl⟩:=own_shape h.own
 have e0:w.cell? ⟨rb,0,none⟩=some (.slice A L.length c):=h.blk.cell 0
 clear h
 go_enter Tryz.func22,Tryz.ntmps22
 go_wp2_with fail
 go_ret
 exact ⟨ret_bool (by simp;omega),rfl⟩
theorem put_walk (rb:Nat) (op arg:Int) (v:Value) (L:List InV) (w:World) (h:RowI X rb 57 v L w) (hl:L.length≤1000000000) :
  Calls Tryz.prog 19 #[.pointer (some ⟨rb,0,none⟩),.int .i64 op,.int .i64 arg] w fun e w'=>e=.returned (.int .i64 L.length)∧∃ v',RowI X rb 57 v' (L++[⟨⟨op,(L.length:Int)+1,0,arg,[]⟩,none,0,0⟩]) w'∧RKI rb v w v' w':=by
 obtain ⟨i0,hi,hz0,hz1,hz2⟩:=info_parts info_inst
 have hn:=next_any rb v L w h
 obtain ⟨A,c,rfl⟩:=own_shape h.own
 have H:=zzA h
 have HN:=zzA hn
 have hba:Below w.heap.size w (w.alloc (.cells #[.int .i64 op,.int .i64 ((L.length:Int)+1),.int .i64 0,.int .i64 arg,.slice none 0 0] 62)):=(zzb _ _).alloc (zzF _) _
 have HB:=zzA (h.blk.alloc (.cells #[.int .i64 op,.int .i64 ((L.length:Int)+1),.int .i64 0,.int .i64 arg,.slice none 0 0] 62))
 have HO:=zzA (own_below h.own hba)
 have HBA:=zzA hba
 have hbs:rb≤(w.alloc (.cells #[.int .i64 op,.int .i64 ((L.length:Int)+1),.int .i64 0,.int .i64 arg,.slice none 0 0] 62)).heap.size:=zzU (zzo h.blk.lt) hba.size
 have e0:w.cell? ⟨rb,0,none⟩=some (.slice A L.length c):=h.blk.cell 0
 have e1:(w.alloc (.cells #[.int .i64 op,.int .i64 ((L.length:Int)+1),.int .i64 0,.int .i64 arg,.slice none 0 0] 62)).cell? ⟨rb,0,none⟩=some (.slice A L.length c):=HB.out.cell 0
 clear h hn hba
 go_enter Tryz.func19,Tryz.ntmps19
 go_wp2_with fail
 refine HN.out.mono ?_
 rintro e w1 ⟨rfl,hw⟩
 subst w1
 simp only []
 go_wp2_with (first
  | (at_builtin;refine wpList_append_lies _ rfl (.tmp 14) (.tmp 20) 30 rfl rb 62 i0 (.agg #[.int .i64 0,.int .i64 0,.int .i64 0,.int .i64 0,.slice none 0 0]) 5 56 Tryz.underlying30 hi hz0 hz1 hz2 rfl (by decide) (.slice A L.length c) L.length (insRow L) rfl HO.out ⟨w.heap.size,0,none⟩ 1 1 [.int .i64 op,.int .i64 ((L.length:Int)+1),.int .i64 0,.int .i64 arg,.slice none 0 0] rfl rfl (new_atT w _ [.int .i64 op,.int .i64 ((L.length:Int)+1),.int .i64 0,.int .i64 arg,.slice none 0 0]) (insV_one ⟨op,(L.length:Int)+1,0,arg,[]⟩ none 0 0) (by decide) (by unfold maxLen;omega) (by omega) hbs _ rfl ?_;intro g cap2 w2 hou2 hg2 hat2 hlt2;have hgo:=at_old HBA.out.size hat2;have hgr:g≠rb:=(fun e=>(by rcases hgo with h | h;exact H.out.sep (by rw [h,e]);have:=H.out.blk.lt;omega));have hb2:=HB.out.grown hg2 H.out.sep.symm;have q1:w2.cell? ⟨rb,0,none⟩=some (.slice A L.length c):=hb2.cell 0;have q2:=hb2.frozen 0;have q3:=hb2.lt;have HOU:=zzA hou2;have HGO:=zzA hgo;have HGR:=zzA hgr;have HB2:=zzA hb2;have HG2:=zzA hg2;clear hgo hgr hb2 hg2 hou2 hat2))
 go_ret
 refine ⟨rfl,RowI.fin (c:=c) H.out RdA.none_ (((Kept.of_below (L:=[]) HBA.out).trans (Kept.of_grown' HG2.out)).more (by intro k hk;simp at hk ⊢;exact .inl hk)) ((zyG ⟨rb,0,none⟩ (.slice (some ⟨g,0,none⟩) (L.length+1) cap2)).more (by intro k hk;simp at hk ⊢;exact .inl (.inl hk))) HGO.out HGR.out (HB2.out.set_ 0 _) ?_⟩
 rw [insRow_app,insRow_one]
 exact own_kept HOU.out (zyG (w:=w2) ⟨rb,0,none⟩ _) (fun x hx hm=>by simp [Value.ownBlock] at hx hm;exact HGR.out (by rw [hx,hm]))
theorem end_walk (rb:Nat) (I:Ins) (hI:I.rng=[]) (v:Value) (L:List InV) (w:World) (h:RowI X rb 57 v L w) (hl:L.length≤1000000000) :
  Calls Tryz.prog 21 #[.pointer (some ⟨rb,0,none⟩),.agg #[.int .i64 I.op,.int .i64 I.x,.int .i64 I.y,.int .i64 I.arg,.slice none 0 0]] w fun e w'=>e=.returned (.tuple #[])∧∃ v',RowI X rb 57 v' (L++[⟨I,none,0,0⟩]) w'∧RKI rb v w v' w':=by
 obtain ⟨i0,hi,hz0,hz1,hz2⟩:=info_parts info_inst
 obtain ⟨A,c,rfl⟩:=own_shape h.own
 have hba:Below w.heap.size w (w.alloc (.cells #[.int .i64 I.op,.int .i64 I.x,.int .i64 I.y,.int .i64 I.arg,.slice none 0 0] 62)):=(zzb _ _).alloc (zzF _) _
 have hb1:=h.blk.below hba h.blk.lt
 have ho1:=own_below h.own hba
 have ht1:=zyI w 62 [.int .i64 I.op,.int .i64 I.x,.int .i64 I.y,.int .i64 I.arg,.slice none 0 0]
 have hbs0:rb≤(w.alloc (.cells #[.int .i64 I.op,.int .i64 I.x,.int .i64 I.y,.int .i64 I.arg,.slice none 0 0] 62)).heap.size:=zzU (zzo h.blk.lt) hba.size
 have H:=zzA h
 have HI:=zzA hI
 clear h hI
 go_enter Tryz.func21,Tryz.ntmps21
 go_wp2_with (at_builtin;refine dbg ?_)
 generalize (w.alloc (.cells #[.int .i64 I.op,.int .i64 I.x,.int .i64 I.y,.int .i64 I.arg,.slice none 0 0] 62))=w1 at *
 have hb12:Below w1.heap.size w1 (w1.alloc (.cells #[.int .i64 I.op,.int .i64 I.x,.int .i64 I.y,.int .i64 I.arg,.slice none 0 0] 62)):=(zzb _ _).alloc (zzF _) _
 have HB:=zzA (hb1.alloc (.cells #[.int .i64 I.op,.int .i64 I.x,.int .i64 I.y,.int .i64 I.arg,.slice none 0 0] 62))
 have ht2:=ht1.alloc (.cells #[.int .i64 I.op,.int .i64 I.x,.int .i64 I.y,.int .i64 I.arg,.slice none 0 0] 62)
 have HO:=zzA (own_below ho1 hb12)
 have hbs:rb≤(w1.alloc (.cells #[.int .i64 I.op,.int .i64 I.x,.int .i64 I.y,.int .i64 I.arg,.slice none 0 0] 62)).drew.heap.size:=zzU hbs0 hb12.size
 have e0:w1.drew.cell? ⟨rb,0,none⟩=some (.slice A L.length c):=hb1.cell 0
 have e1:(w1.alloc (.cells #[.int .i64 I.op,.int .i64 I.x,.int .i64 I.y,.int .i64 I.arg,.slice none 0 0] 62)).drew.cell? ⟨rb,0,none⟩=some (.slice A L.length c):=HB.out.cell 0
 have g0:w1.drew.cell? ⟨w.heap.size,0,none⟩=some (.int .i64 I.op):=ht1.cell 0
 have f0:(w1.alloc (.cells #[.int .i64 I.op,.int .i64 I.x,.int .i64 I.y,.int .i64 I.arg,.slice none 0 0] 62)).drew.cell? ⟨w.heap.size,0,none⟩=some (.int .i64 I.op):=ht2.cell 0
 have g1:w1.drew.cell? ⟨w.heap.size,1,none⟩=some (.int .i64 I.x):=ht1.cell 1
 have f1:(w1.alloc (.cells #[.int .i64 I.op,.int .i64 I.x,.int .i64 I.y,.int .i64 I.arg,.slice none 0 0] 62)).drew.cell? ⟨w.heap.size,1,none⟩=some (.int .i64 I.x):=ht2.cell 1
 have g2:w1.drew.cell? ⟨w.heap.size,2,none⟩=some (.int .i64 I.y):=ht1.cell 2
 have f2:(w1.alloc (.cells #[.int .i64 I.op,.int .i64 I.x,.int .i64 I.y,.int .i64 I.arg,.slice none 0 0] 62)).drew.cell? ⟨w.heap.size,2,none⟩=some (.int .i64 I.y):=ht2.cell 2
 have g3:w1.drew.cell? ⟨w.heap.size,3,none⟩=some (.int .i64 I.arg):=ht1.cell 3
 have f3:(w1.alloc (.cells #[.int .i64 I.op,.int .i64 I.x,.int .i64 I.y,.int .i64 I.arg,.slice none 0 0] 62)).drew.cell? ⟨w.heap.size,3,none⟩=some (.int .i64 I.arg):=ht2.cell 3
 have g4:w1.drew.cell? ⟨w.heap.size,4,none⟩=some (.slice none 0 0):=ht1.cell 4
 have f4:(w1.alloc (.cells #[.int .i64 I.op,.int .i64 I.x,.int .i64 I.y,.int .i64 I.arg,.slice none 0 0] 62)).drew.cell? ⟨w.heap.size,4,none⟩=some (.slice none 0 0):=ht2.cell 4
 have HBA:=zzA hba
 have HB12:=zzA hb12
 have HSZ:=zzA (show w.heap.size≤(w1.alloc (.cells #[.int .i64 I.op,.int .i64 I.x,.int .i64 I.y,.int .i64 I.arg,.slice none 0 0] 62)).drew.heap.size from zzU hba.size hb12.size)
 clear hba hb1 ho1 ht1 ht2 hb12 hbs0
 go_region_law (first
  | (refine step_append_lies _ rfl (.tmp 8) (.tmp 10) 30 rfl rb 62 i0 (.agg #[.int .i64 0,.int .i64 0,.int .i64 0,.int .i64 0,.slice none 0 0]) 5 56 Tryz.underlying30 hi hz0 hz1 hz2 rfl (by decide) (.slice A L.length c) L.length (insRow L) rfl HO.out.drew ⟨w1.heap.size,0,none⟩ 1 1 [.int .i64 I.op,.int .i64 I.x,.int .i64 I.y,.int .i64 I.arg,.slice none 0 0] rfl rfl (new_atT w1 _ [.int .i64 I.op,.int .i64 I.x,.int .i64 I.y,.int .i64 I.arg,.slice none 0 0]) (insV_one I none 0 0) (by decide) (by unfold maxLen;omega) (by omega) hbs _ rfl ?_;intro g cap2 w2 hou2 hg2 hat2 hlt2;have hgo:=at_old HSZ.out hat2;have hgr:g≠rb:=(fun e=>(by rcases hgo with h | h;exact H.out.sep (by rw [h,e]);have:=H.out.blk.lt;omega));have hb2:=HB.out.drew.grown hg2 H.out.sep.symm;have q1:w2.cell? ⟨rb,0,none⟩=some (.slice A L.length c):=hb2.cell 0;have q2:=hb2.frozen 0;have q3:=hb2.lt;have HOU:=zzA hou2;have HGO:=zzA hgo;have HGR:=zzA hgr;have HB2:=zzA hb2;have HG2:=zzA hg2;clear hgo hgr hb2 hg2 hou2 hat2))
 all_goals
  go_end0
  refine ⟨rfl,RowI.fin (c:=c) H.out (by rw [HI.out];exact RdA.none_) (((Kept.of_below (L:=[]) HBA.out).trans ((Kept.of_below (L:=[]) HB12.out).trans ((Kept.drew (L:=[])).trans (Kept.of_grown' HG2.out)))).more (by intro k hk;simp at hk ⊢;exact .inl hk)) ((zyG ⟨rb,0,none⟩ (.slice (some ⟨g,0,none⟩) (L.length+1) cap2)).more (by intro k hk;simp at hk ⊢;exact .inl (.inl hk))) HGO.out HGR.out (HB2.out.set_ 0 _) ?_⟩
  rw [insRow_app,insRow_one]
  exact own_kept HOU.out (zyG (w:=w2) ⟨rb,0,none⟩ _) (fun x hx hm=>by simp [Value.ownBlock] at hx hm;exact HGR.out (by rw [hx,hm]))
end Go.Proofs.YtgkclnmmjedmkaaGreat
namespace Go.Proofs.YtgkclnmmjedmkaaGreat
open Go.RowKit Mach Tr
variable {X:List Nat}
structure LP (X:List Nat) (rb:Nat) (v:Value) (w:World) (L:List InV) (n:Nat) (code:List Ins) (v':Value) (L':List InV) (w':World):Prop where
 row:RowI X rb 57 v' L' w'
 rk:RKI rb v w v' w'
 ge:L.length≤L'.length
 le:L'.length≤L.length+n
 ok:L'.length≤20000→insL L'=insL L++code
theorem insL_app (a b:List InV):insL (a++b)=insL a++insL b:=by unfold insL;rw [zzT]
theorem insL_len (a:List InV):(insL a).length=a.length:=by unfold insL;rw [zzP]
theorem insL_set (a:List InV) (i:Nat) (u:InV):insL (a.set i u)=(insL a).set i u.I:=by unfold insL;rw [List.map_set]
theorem LP.trans {X':List Nat} {rb:Nat} {v:Value} {w w1 w2:World} {L L1 L2:List InV} {n m:Nat} {c d:List Ins} {v1 v2:Value} (h:LP X rb v w L n c v1 L1 w1) (g:LP X' rb v1 w1 L1 m d v2 L2 w2):LP X' rb v w L (n+m) (c++d) v2 L2 w2 :=
 ⟨g.row,h.rk.trans g.rk,zzU h.ge g.ge,by have:=h.le;have:=g.le;omega,fun hk=>by rw [g.ok hk,h.ok (zzU g.ge hk),zyF]⟩
theorem LP.refl {rb:Nat} {v:Value} {w w':World} {L:List InV} (hr:RowI X rb 57 v L w) (hb:Below w.heap.size w w'):LP X rb v w L 0 [] v L w' :=
 ⟨hr.below hb,RKI.of_below hb,zzF _,zzF _,fun _=>(zzY _).symm⟩
theorem LP.put {rb:Nat} {w w':World} {L:List InV} {u:InV} {v v':Value} (hr:RowI X rb 57 v' (L++[u]) w') (hk:RKI rb v w v' w'):LP X rb v w L 1 [u.I] v' (L++[u]) w' :=
 ⟨hr,hk,by simp,by simp,fun _=>by rw [insL_app];rfl⟩
theorem LP.below {rb:Nat} {v:Value} {w w' w2:World} {L L':List InV} {n:Nat} {c:List Ins} {v':Value} (h:LP X rb v w L n c v' L' w') (hb:Below w'.heap.size w' w2):LP X rb v w L n c v' L' w2 :=
 ⟨h.row.below hb,h.rk.trans (RKI.of_below hb),h.ge,h.le,h.ok⟩
theorem LP.set_ {rb:Nat} {v:Value} {w w' w2:World} {L L':List InV} {n:Nat} {c d:List Ins} {v':Value} (h:LP X rb v w L n c v' L' w') {i:Nat} {u:InV} (hi:L.length≤i) (hr:RowI X rb 57 v' (L'.set i u) w2) (hk:RKI rb v' w' v' w2) (hd:L'.length≤20000→c.set (i - L.length) u.I=d):LP X rb v w L n d v' (L'.set i u) w2 :=
 ⟨hr,h.rk.trans hk,by rw [zzu];exact h.ge,by rw [zzu];exact h.le,fun hl=>by
  rw [zzu] at hl
  rw [insL_set,h.ok hl,List.set_append_right _ _ (by rw [insL_len];exact hi),insL_len,hd hl]⟩
theorem LP.seq {X':List Nat} {rb:Nat} {v:Value} {w w1 w2:World} {L L1 L2:List InV} {n m:Nat} {c:List Ins} {v1 v2:Value} (h:LP X rb v w L n c v1 L1 w1) (hc:c.length=n) (f:Nat→List Ins) (g:LP X' rb v1 w1 L1 m (f L1.length) v2 L2 w2):LP X' rb v w L (n+m) (c++f (L.length+n)) v2 L2 w2:=by
 have t:=h.trans g
 refine ⟨t.row,t.rk,t.ge,t.le,fun hk=>?_⟩
 have h1:=congrArg List.length (h.ok (zzU g.ge hk))
 rw [insL_len,zzG,insL_len,hc] at h1
 rw [t.ok hk,h1]
theorem LP.length {rb:Nat} {v:Value} {w w1:World} {L L1:List InV} {n:Nat} {c:List Ins} {v1:Value} (h:LP X rb v w L n c v1 L1 w1) (hc:c.length=n) (hl:L1.length≤20000):L1.length=L.length+n:=by
 have h1:=congrArg List.length (h.ok hl)
 rwa [insL_len,zzG,insL_len,hc] at h1
theorem set_modify {α:Type} (f:α→α):∀ (l:List α) (i:Nat) (a:α),l[i]?=some a→l.set i (f a)=l.modify i f
 | [],i,a,h=>by simp at h
 | x :: l,0,a,h=>by simp at h;subst h;rfl
 | x :: l,i+1,a,h=>by rw [zzC,set_modify f l i a (by simpa using h)];rfl
theorem LP.mod {rb:Nat} {v:Value} {w w' w2:World} {L L':List InV} {n:Nat} {c d:List Ins} {v':Value} (h:LP X rb v w L n c v' L' w') {i:Nat} {a u:InV} (f:Ins→Ins) (ha:L'[i]?=some a) (hu:u.I=f a.I) (hi:L.length≤i) (hr:RowI X rb 57 v' (L'.set i u) w2) (hk:RKI rb v' w' v' w2) (hd:L'.length≤20000→c.modify (i - L.length) f=d):LP X rb v w L n d v' (L'.set i u) w2:=by
 refine h.set_ hi hr hk fun hl=>?_
 rw [←hd hl,hu]
 refine set_modify f c _ a.I ?_
 have h1:(insL L')[i]?=some a.I:=by unfold insL;rw [zza,ha];rfl
 rw [h.ok hl,zzz (by rw [insL_len];exact hi),insL_len] at h1
 exact h1
theorem codesS_app:∀ (a b:List Tr.Tr) (n:Nat),codesS (a++b) n=codesS a n++codesS b (n+lensS a)
 | [],b,n=>by rw [zzn,codesS,lensS];rfl
 | t :: a,b,n=>by rw [zzi,codesS,codesS_app a b,codesS,lensS,zyF,zzy]
theorem lensS_app:∀ a b:List Tr.Tr,lensS (a++b)=lensS a+lensS b
 | [],b=>by rw [zzn,lensS];omega
 | t :: a,b=>by rw [zzi,lensS,lensS_app a b,lensS];omega
theorem codes_len (l:List Tr.Tr) (b:Nat):(codesS l b).length=lensS l:=codes_length l (fun s _ b=>code_length s b) b
theorem lens_take (l:List Tr.Tr) (i:Nat):lensS (l.take i)≤lensS l:=by
 have:=congrArg lensS (List.take_append_drop i l)
 rw [lensS_app] at this
 omega
theorem wrI {x:Int} (h:-9223372036854775808≤x∧x < 9223372036854775808):IntKind.i64.wrap x=x:=by rw [zzx];omega
theorem RowI.drew {rb:Nat} {ty:TypeId} {v:Value} {L:List InV} {w:World} (h:RowI X rb ty v L w):RowI X rb ty v L w.drew:=h.below (bdrewN (zzb _ _) 1)
theorem LP.drew {rb:Nat} {v:Value} {w w':World} {L L':List InV} {n:Nat} {c:List Ins} {v':Value} (h:LP X rb v w L n c v' L' w'):LP X rb v w L n c v' L' w'.drew:=h.below (bdrewN (zzb _ _) 1)
theorem NB.drew {rb g:Nat} {ty:TypeId} {cs:List Value} {v:Value} {w:World} (h:NB rb g ty cs v w):NB rb g ty cs v w.drew:=⟨h.blk,h.ne,h.sep⟩
theorem LP.cast {rb:Nat} {v:Value} {w w':World} {L L':List InV} {n n':Nat} {c c':List Ins} {v':Value} (h:LP X rb v w L n c v' L' w') (hn:n=n') (hc:c=c'):LP X rb v w L n' c' v' L' w':=by subst hn hc;exact h
def LY (t:Ta):Prop:=∀ (X:List Nat) (S:Nat→Prop) (w:World) (rb:Nat) (v:Value) (L:List InV),RT w S t→(∀ b,S b→b < rb)→RowI X rb 57 v L w→L.length+lenS t.tr≤1000000000 →
  Calls Tryz.prog 20 #[(.pointer (some ⟨rb,0,none⟩)),t.val] w fun e w'=>e=.returned (.tuple #[])∧∃ v' L',LP X rb v w L (lenS t.tr) (codeS t.tr L.length) v' L' w'
end Go.Proofs.YtgkclnmmjedmkaaGreat
namespace Go.Proofs.YtgkclnmmjedmkaaGreat
open Go.RowKit Mach Tr
variable {X:List Nat}
theorem layAss_any (k:Int) (r:List (Int × Int)) (ra:Option Addr) (rc:Nat) (ast:Int) (l:List Ta) (sa:Option Addr) (sc:Nat) (mn mx:Int) (z:Bool) (ix:Int) (nm:ByteArray) (w:World) (rb:Nat) (v:Value) (L:List InV) (hr:RowI X rb 57 v L w) (hl:L.length+1≤1000000000) :
  Calls Tryz.prog 78 #[(.pointer (some ⟨rb,0,none⟩)),(Ta.mk k r ra rc ast l sa sc mn mx z ix nm).val] w fun e w'=>e=.returned (.tuple #[])∧∃ v' L',LP X rb v w L 1 [⟨4,(L.length:Int)+1,0,ast,[]⟩] v' L' w':=by
 have hb0:Below w.heap.size w (w.alloc (.cells #[.int .i64 k,.slice ra r.length rc,.int .i64 ast,.slice sa l.length sc,.int .i64 mn,.int .i64 mx,.bool z,.int .i64 ix,.string nm] 25)):=(zzb _ _).alloc (zzF _) _
 have hb1:=bdrewN hb0 1
 have HP:=zzA (put_walk rb 4 ast v L (w.alloc (.cells #[.int .i64 k,.slice ra r.length rc,.int .i64 ast,.slice sa l.length sc,.int .i64 mn,.int .i64 mx,.bool z,.int .i64 ix,.string nm] 25)).drew (hr.below hb1) (by omega))
 have HL:=zzA (LP.refl hr hb1)
 have HX:=zzA (hr.new (ty2:=25) [.int .i64 k,.slice ra r.length rc,.int .i64 ast,.slice sa l.length sc,.int .i64 mn,.int .i64 mx,.bool z,.int .i64 ix,.string nm])
 clear hr hb0 hb1
 simp only [Ta.val,Ta.vals]
 go_enter Tryz.func78,Tryz.ntmps78
 go_wp2_with fail
 generalize (w.alloc (.cells #[.int .i64 k,.slice ra r.length rc,.int .i64 ast,.slice sa l.length sc,.int .i64 mn,.int .i64 mx,.bool z,.int .i64 ix,.string nm] 25))=w1 at *
 have kA:w1.drew.cell? ⟨w.heap.size,2,none⟩=some (.int .i64 ast):=HX.out.blk.cell 2
 go_region_held_law (fun w'=>w'.cell? ⟨w.heap.size,2,none⟩=some (.int .i64 ast)) (first | with_reducible exact kA | with_reducible exact kB | with_reducible exact kC | with_reducible exact kD) (first | (go_at_call 19;refine HP.out.mono ?_;rintro e w5 ⟨rfl,v5,hr5,hk5⟩;have HL5:=zzA (HL.out.trans (LP.put hr5 hk5));have HX5:=zzA (hk5.nb (w:=w1.drew) ⟨HX.out.blk,HX.out.ne,HX.out.sep⟩);have kB:w5.cell? ⟨w.heap.size,2,none⟩=some (.int .i64 ast):=HX5.out.blk.cell 2;clear hr5 hk5;simp only []))
 go_end0
 exact ⟨rfl,_,_,HL5.out⟩
theorem class_none (k:Int) (r:List (Int × Int)) (ra:Option Addr) (rc:Nat) (ast:Int) (l:List Ta) (sa:Option Addr) (sc:Nat) (mn mx:Int) (z:Bool) (ix:Int) (nm:ByteArray) (w:World) (rb:Nat) (v:Value) (L:List InV) (hr:RowI X rb 57 v L w) (hl:L.length+1≤1000000000) (hrp:r=[]) :
  Calls Tryz.prog 77 #[(.pointer (some ⟨rb,0,none⟩)),(Ta.mk k r ra rc ast l sa sc mn mx z ix nm).val] w fun e w'=>e=.returned (.tuple #[])∧∃ v' L',LP X rb v w L 1 [⟨6,0,0,0,[]⟩] v' L' w':=by
 subst hrp
 have hb0:Below w.heap.size w (w.alloc (.cells #[.int .i64 k,.slice ra ([]:List (Int × Int)).length rc,.int .i64 ast,.slice sa l.length sc,.int .i64 mn,.int .i64 mx,.bool z,.int .i64 ix,.string nm] 25)):=(zzb _ _).alloc (zzF _) _
 have hb1:=bdrewN hb0 1
 have HP:=zzA (end_walk rb ⟨6,0,0,0,[]⟩ rfl v L (w.alloc (.cells #[.int .i64 k,.slice ra ([]:List (Int × Int)).length rc,.int .i64 ast,.slice sa l.length sc,.int .i64 mn,.int .i64 mx,.bool z,.int .i64 ix,.string nm] 25)) (hr.below hb0) (by omega))
 have HL:=zzA (LP.refl hr hb0)
 have HX:=zzA (hr.new (ty2:=25) [.int .i64 k,.slice ra ([]:List (Int × Int)).length rc,.int .i64 ast,.slice sa l.length sc,.int .i64 mn,.int .i64 mx,.bool z,.int .i64 ix,.string nm])
 clear hr hb0 hb1
 simp only [Ta.val,Ta.vals]
 go_enter Tryz.func77,Tryz.ntmps77
 have kA:(w.alloc (.cells #[.int .i64 k,.slice ra ([]:List (Int × Int)).length rc,.int .i64 ast,.slice sa l.length sc,.int .i64 mn,.int .i64 mx,.bool z,.int .i64 ix,.string nm] 25)).cell? ⟨w.heap.size,1,none⟩=some (.slice ra 0 rc):=HX.out.blk.cell 1
 go_wp2_with fail
 generalize (w.alloc (.cells #[.int .i64 k,.slice ra ([]:List (Int × Int)).length rc,.int .i64 ast,.slice sa l.length sc,.int .i64 mn,.int .i64 mx,.bool z,.int .i64 ix,.string nm] 25))=w1 at *
 refine HP.out.mono ?_
 rintro e w5 ⟨rfl,v5,hr5,hk5⟩
 have HL5:=zzA (HL.out.trans (LP.put hr5 hk5))
 clear hr5 hk5
 simp only []
 go_wp2_with fail
 refine zzm (results_none rfl _ _ _) rfl ?_
 exact ⟨rfl,_,_,HL5.out⟩
theorem class_some (k:Int) (r:List (Int × Int)) (ra:Option Addr) (rc:Nat) (ast:Int) (l:List Ta) (sa:Option Addr) (sc:Nat) (mn mx:Int) (z:Bool) (ix:Int) (nm:ByteArray) (S:Nat→Prop) (w:World) (rb:Nat) (v:Value) (L:List InV) (h:RT w S (.mk k r ra rc ast l sa sc mn mx z ix nm)) (hS:∀ b,S b→b < rb) (hr:RowI X rb 57 v L w) (hl:L.length+1≤1000000000) (hrp:r≠[]) :
  Calls Tryz.prog 77 #[(.pointer (some ⟨rb,0,none⟩)),(Ta.mk k r ra rc ast l sa sc mn mx z ix nm).val] w fun e w'=>e=.returned (.tuple #[])∧∃ v' L',LP X rb v w L 1 [⟨1,(L.length:Int)+1,0,0,r⟩] v' L' w':=by
 have hb0:Below w.heap.size w (w.alloc (.cells #[.int .i64 k,.slice ra r.length rc,.int .i64 ast,.slice sa l.length sc,.int .i64 mn,.int .i64 mx,.bool z,.int .i64 ix,.string nm] 25)):=(zzb _ _).alloc (zzF _) _
 have HP:=zzA (put_walk rb 1 0 v L (w.alloc (.cells #[.int .i64 k,.slice ra r.length rc,.int .i64 ast,.slice sa l.length sc,.int .i64 mn,.int .i64 mx,.bool z,.int .i64 ix,.string nm] 25)) (hr.below hb0) (by omega))
 have HL:=zzA (LP.refl hr hb0)
 have HX:=zzA (hr.new (ty2:=25) [.int .i64 k,.slice ra r.length rc,.int .i64 ast,.slice sa l.length sc,.int .i64 mn,.int .i64 mx,.bool z,.int .i64 ix,.string nm])
 have hrl:¬r.length=0:=fun e=>hrp (zzq e)
 obtain ⟨⟨hR,hrl2,hll,hnm⟩,-,-⟩:=h.parts
 have HRR:=zzA hR
 have HS:=zzA hS
 have HR:=zzA hr
 have HB0:=zzA hb0
 clear h hS hr hb0 hrp hR hnm hll
 simp only [Ta.val,Ta.vals]
 go_enter Tryz.func77,Tryz.ntmps77
 have kA:(w.alloc (.cells #[.int .i64 k,.slice ra r.length rc,.int .i64 ast,.slice sa l.length sc,.int .i64 mn,.int .i64 mx,.bool z,.int .i64 ix,.string nm] 25)).cell? ⟨w.heap.size,1,none⟩=some (.slice ra r.length rc):=HX.out.blk.cell 1
 go_wp2_with fail
 generalize (w.alloc (.cells #[.int .i64 k,.slice ra r.length rc,.int .i64 ast,.slice sa l.length sc,.int .i64 mn,.int .i64 mx,.bool z,.int .i64 ix,.string nm] 25))=w1 at *
 refine HP.out.mono ?_
 rintro e w5 ⟨rfl,v5,hr5,hk5⟩
 have HL5:=zzA (HL.out.trans (LP.put hr5 hk5))
 have HX5:=zzA (hk5.nb HX.out)
 have HR5:=zzA hr5
 obtain ⟨A5,c5,rfl⟩:=own_shape hr5.own
 clear hr5 hk5
 simp only []
 obtain ⟨g0,rfl,-,hg0,hg1⟩:=own_form HR5.out.own (by simp)
 obtain ⟨b,off,rfl,hSb,hcb⟩:=HRR.out.2.2.2.2 (by omega)
 have hlen5:(L++[⟨⟨1,(L.length:Int)+1,0,0,[]⟩,none,0,0⟩]:List InV).length=L.length+1:=by simp
 have hrb5:=HR5.out.blk.lt
 have hbrb:=HS.out b hSb
 have hlow5:Below rb w w5:=HR.out.low HL5.out.rk
 have hnews:∀ j u,(flat r)[j]?=some u→w5.drew.cell? ((⟨b,off,none⟩:Addr).add j)=some u:=fun j u hu=>by
  rw [add_lit]
  exact (hlow5.cell (p:=⟨b,off+j,none⟩) hbrb).trans (hcb j u hu)
 have e0:w5.drew.cell? ⟨rb,0,none⟩=some (.slice (some ⟨g0,0,none⟩) (L.length+1) c5):=by rw [←hlen5];exact HR5.out.blk.cell 0
 have e1:w5.drew.cell? ⟨w.heap.size,1,none⟩=some (.slice (some ⟨b,off,none⟩) r.length rc):=HX5.out.blk.cell 1
 have hlt:(L.length:Int) < (L.length:Int)+1:=by omega
 obtain ⟨i0,hi,hz0,hz1,hz2⟩:=info_parts info_clone_rng
 have HN:=zzA hnews
 have HLN:=zzA hlen5
 clear hnews hlow5 hcb hSb HRR HS HX HP kA hlen5
 go_wp2_with fail
 go_region_law (first
  | (refine step_append_lies _ rfl (.const (.slice none 0 0)) (.tmp 25) 22 rfl w5.heap.size 91 i0 (.agg #[.int .i64 0,.int .i64 0]) 2 16 Tryz.underlying22 hi hz0 hz1 hz2 rfl (by decide) (.slice none 0 0) 0 [] rfl (World.ownsRow_nil _ _ _ _) ⟨b,off,none⟩ r.length rc (flat r) rfl (flat_length r) HN.out (flat_one r) (by omega) (by unfold maxLen;omega) (by omega) (zzF _) _ rfl ?_;intro g cap w6 hou hgr hat hl6;have hb6:Below w5.heap.size w5 w6:=(((Kept.drew (L:=[])).trans (Kept.of_grown' hgr)).below (by simp [Value.ownBlock]) (zzF _));have HR6:=zzA (HR5.out.below hb6);have e0':w6.cell? ⟨rb,0,none⟩=some (.slice (some ⟨g0,0,none⟩) (L.length+1) c5):=(by rw [←HLN.out];exact HR6.out.blk.cell 0);have f4:w6.cell? ⟨g0,L.length*5+4,none⟩=some (.slice none 0 0):=own_cell HR6.out.own (insRow_at L ⟨⟨1,(L.length:Int)+1,0,0,[]⟩,none,0,0⟩ 4 (by omega));have f5:=own_frozen HR6.out.own (L.length*5+4);have HOU:=zzA hou;have HB6:=zzA hb6;have HAT:=zzA (hou.lt g rfl);clear hou hgr hat hb6))
 all_goals
  go_end0
  have hlenu:L.length < (L++[⟨⟨1,(L.length:Int)+1,0,0,[]⟩,none,0,0⟩]:List InV).length:=by simp
  have hat:(L++[⟨⟨1,(L.length:Int)+1,0,0,[]⟩,none,0,0⟩]:List InV)[L.length]?=some ⟨⟨1,(L.length:Int)+1,0,0,[]⟩,none,0,0⟩:=by simp
  have hru:RdA w6 (Fr rb ([rb,g0]++X) w6) 2 (some ⟨g,0,none⟩) r.length cap (flat r):=by
   obtain ⟨A',c',he,hra⟩:=RdA.of_own (L:=[rb,g0]++X) HOU.out (by intro x hx hm;simp only [Value.ownBlock,zzd] at hx;subst hx;have h1:=HAT.out.1;rcases zzM.1 hm with hm | hm;(simp only [zzN,zyA,or_false] at hm;omega);(have:=HR5.out.xs _ hm;omega))
   simp only [zzw,zzn] at he hra
   cases he
   exact hra.mono fun x hx=>⟨by have:=hx.1;omega,hx.2.1,hx.2.2⟩
  refine ⟨rfl,_,_,(HL5.out.below HB6.out).set_ (i:=L.length) (u:=⟨⟨1,(L.length:Int)+1,0,0,r⟩,some ⟨g,0,none⟩,r.length,cap⟩) (zzF _) ?_ ?_ ?_⟩
  ·have:=HR6.out.set_ (q:=4) (x:=.slice (some ⟨g,0,none⟩) r.length cap) (u:=⟨⟨1,(L.length:Int)+1,0,0,r⟩,some ⟨g,0,none⟩,r.length,cap⟩) hat (by omega) rfl hru
   simp only [zzu] at this
   exact this
  ·exact RowI.set_k
  ·intro _
   simp
end Go.Proofs.YtgkclnmmjedmkaaGreat
namespace Go.Proofs.YtgkclnmmjedmkaaGreat
open Go.RowKit Mach Tr
variable {X:List Nat}
theorem layCat_any (k:Int) (r:List (Int × Int)) (ra:Option Addr) (rc:Nat) (ast:Int) (l:List Ta) (sa:Option Addr) (sc:Nat) (mn mx:Int) (z:Bool) (ix:Int) (nm:ByteArray) (ih:∀ u∈l,LY u) (S:Nat→Prop) (w:World) (rb:Nat) (v:Value) (L:List InV) (h:RT w S (.mk k r ra rc ast l sa sc mn mx z ix nm)) (hS:∀ b,S b→b < rb) (hr:RowI X rb 57 v L w) (hl:L.length+lensS (trs l)≤1000000000) :
  Calls Tryz.prog 82 #[(.pointer (some ⟨rb,0,none⟩)),(Ta.mk k r ra rc ast l sa sc mn mx z ix nm).val] w fun e w'=>e=.returned (.tuple #[])∧∃ v' L',LP X rb v w L (lensS (trs l)) (codesS (trs l) L.length) v' L' w':=by
 have hb0:Below w.heap.size w (w.alloc (.cells #[.int .i64 k,.slice ra r.length rc,.int .i64 ast,.slice sa l.length sc,.int .i64 mn,.int .i64 mx,.bool z,.int .i64 ix,.string nm] 25)):=(zzb _ _).alloc (zzF _) _
 have HL:=zzA (LP.refl hr hb0)
 have HX:=zzA (hr.new (ty2:=25) [.int .i64 k,.slice ra r.length rc,.int .i64 ast,.slice sa l.length sc,.int .i64 mn,.int .i64 mx,.bool z,.int .i64 ix,.string nm])
 have HR:=zzA hr
 obtain ⟨⟨-,-,hll,-⟩,hN,hLs⟩:=h.parts
 have HNN:=zzA hN
 have HLS:=zzA hLs
 have HS:=zzA hS
 have HIH:=zzA ih
 clear h hS hr hb0 hN hLs ih
 have kA:(w.alloc (.cells #[.int .i64 k,.slice ra r.length rc,.int .i64 ast,.slice sa l.length sc,.int .i64 mn,.int .i64 mx,.bool z,.int .i64 ix,.string nm] 25)).cell? ⟨w.heap.size,3,none⟩=some (.slice sa l.length sc):=HX.out.blk.cell 3
 simp only [Ta.val,Ta.vals]
 go_enter Tryz.func82,Tryz.ntmps82
 go_wp2_with fail
 go_loopw [9] (fun iv wr=>∃ (i:Nat) (v':Value) (L':List InV),i≤l.length∧iv=.int .i64 (i:Int)∧LP X rb v w L (lensS (trs (l.take i))) (codesS (trs (l.take i)) L.length) v' L' wr) (fun iv _=>l.length - (intOf iv).toNat)
 case atStart=>exact ⟨0,v,L,zzZ _,rfl,by rw [List.take_zero,trs,lensS,codesS];exact HL.out⟩
 case round =>
  obtain ⟨i,v',L',hi,rfl,hq⟩:=hrel
  have HQ:=zzA hq
  by_cases hlt:i < l.length
  ·have hlt2:(i:Int) < (l.length:Int):=by omega
   obtain ⟨b,off,rfl,hSb,_⟩:=HNN.out.2.2.2.2 (by omega)
   obtain ⟨u,hu⟩:∃ u,l[i]?=some u:=⟨_,zzJ hlt⟩
   have hum:u∈l:=zzL hu
   have hB:Below rb w wr:=HR.out.low hq.rk
   have hcell:∀ j,j < 9→wr.cell? ⟨b,off+i*9+j,none⟩=u.vals[j]?:=fun j hj=>by
    rw [zzy]
    rw [←HNN.out.node hu hj]
    exact (hB.cell (p:=⟨b,off+(i*9+j),none⟩) (HS.out b hSb))
   have hba:Below wr.heap.size wr (wr.alloc (.cells u.vals.toArray 25)):=(zzb _ _).alloc (zzF _) _
   have HTK:=zzA (show trs (l.take (i+1))=trs (l.take i)++[u.tr] from by rw [zyD,hu,trs_map,trs_map,zzT];rfl)
   have hle:=lens_take (trs l) (i+1)
   have htt:(trs l).take (i+1)=trs (l.take (i+1)):=by rw [trs_map,trs_map,List.map_take]
   rw [htt,HTK.out,lensS_app,lensS,lensS] at hle
   have hqle:=hq.le
   have hRK:=HIH.out u hum X S (wr.alloc (.cells u.vals.toArray 25)) rb v' L' ((HLS.out u hum).below HS.out (hB.trans (hba.mono (zzo hq.row.blk.lt)))) HS.out (hq.row.below hba) (by omega)
   have HBA:=zzA hba
   clear hq hB hba hu hum htt hle hqle
   obtain ⟨ut,hut⟩:∃ q,q=u.tr:=⟨_,rfl⟩
   rw [←hut] at hRK HTK
   clear hut
   cases u with
   | mk k' r' ra' rc' a' l' sa' sc' n' m' z' i' s' =>
   simp only [Ta.vals] at hcell HBA
   simp only [Ta.val,Ta.vals] at hRK
   have c0:=hcell 0 (by omega)
   have c1':=hcell 1 (by omega)
   have c2':=hcell 2 (by omega)
   have c3:=hcell 3 (by omega)
   have c4:=hcell 4 (by omega)
   have c5:=hcell 5 (by omega)
   have c6:=hcell 6 (by omega)
   have c7:=hcell 7 (by omega)
   have c8:=hcell 8 (by omega)
   simp only [zzR,zzX,Nat.add_zero] at c0 c1' c2' c3 c4 c5 c6 c7 c8
   have HIN:=zzA hRK
   clear hcell hRK
   go_wp2_with fail
   refine HIN.out.mono ?_
   rintro e w5 ⟨rfl,v5,L5,hq5⟩
   have HQ5:=zzA ((HQ.out.below HBA.out).seq (codes_len _ _) (codeS ut) hq5)
   clear hq5
   simp only []
   go_wp2_with fail
   go_roundw
   case rel=>exact ⟨i+1,v5,L5,by omega,by go_num,by rw [HTK.out,lensS_app,codesS_app,lensS,lensS,codesS,codesS,zzY];exact HQ5.out⟩
   case measure=>simp [intOf];omega
  ·obtain rfl:i=l.length:=by omega
   have hlt2:¬((l.length:Int) < (l.length:Int)):=by omega
   go_wp2_with fail
   go_end0
   rw [List.take_length] at hq
   exact ⟨rfl,v',L',hq⟩
end Go.Proofs.YtgkclnmmjedmkaaGreat
