/- heronref06's walker does what the plain one does. -/
import Derived.Deep.AppendLies
import Derived.Deep.RegionHeldLaw
import Derived.Test.YtkhkllpdhnmhkaaRows
import Derived.WalkKit
import Derived.ProofKit
import Derived.OpenShut
import Derived.Below
import Derived.ChangeSame
import Derived.JoinedCond
import Derived.ChangeSlices
import Derived.Deep.SlicePairs
import Derived.Deep.Slices
import Derived.Lib.SmallJoins
import Derived.Test.YtkhkllpdhnmhkaaP03
import Derived.Test.YtkhkllpdhnmhkaaP06
import Derived.Test.YtkhkllpdhnmhkaaP09
import Derived.Test.YtkhkllpdhnmhkaaP21
import Derived.Test.YtkhkllpdhnmhkaaP22
import Derived.Test.YtkhkllpdhnmhkaaP23
import Derived.Test.YtkhkllpdhnmhkaaP24
import Derived.Test.YtkhkllpdhnmhkaaP25
namespace Go.Proofs.Ytkhkllpdhnmhkaa
open Go.RowKit
theorem subs_one {G:Wr} (hwf:G.wf) {n:Mean.Un} (hn:n∈G.root.all) (hk:n.kind=4∨n.kind=7∨n.kind=-3):∃ s l,n.subs=s :: l:=by
 cases hs:n.subs with
 | cons s l=>exact ⟨s,l,rfl⟩
 | nil =>
  exfalso
  rcases hk with e | e | e
  ·exact hwf.cat n hn e hs
  ·obtain ⟨g,-,hg⟩:=hwf.ok
   have:=(hg n hn).2.2.2.2 (by omega)
   rw [hs] at this;exact absurd this (by simp)
  ·obtain ⟨g,-,hg⟩:=hwf.ok
   have:=(hg n hn).2.2.2.2 (by omega)
   rw [hs] at this;exact absurd this (by simp)
theorem task_does6 (G:Wr) (hwf:G.wf) (s s':Mean.St) (k:Mean.Task) (h:G.chain (Mean.work G.t G.at_ s k).1 (Mean.work G.t G.at_ s k).2 s'):G.does s k s':=by
 cases k with
 | beg n pl nt K =>
  intro hn hpl hlen w N c hc hs hr
  simp only [Mean.work] at h
  by_cases hm:s.met (n.ad,pl,false)=0
  ·rw [if_pos hm] at h
   rcases kind_list hwf (Mean.inT_all hn) with e | e | e | e | e | e | e | e | e
   ·rw [show Mean.first G.t n pl nt K=[.go K pl nt] from by simp [Mean.first,e]] at h
    exact begin_1 G hwf s s' n pl nt K hn hm e h hpl hlen w N c hc hs hr
   ·rw [show Mean.first G.t n pl nt K=(if pl < G.t.length∧memB n.rng (G.t.getD pl 0)=true then [.go K (pl+1) nt] else []) from by simp [Mean.first,e]] at h
    exact begin_2 G hwf s s' n pl nt K hn hm e h hpl hlen w N c hc hs hr
   ·rw [show Mean.first G.t n pl nt K=(if Mach.asB G.t pl n.ast then [.go K pl nt] else []) from by simp [Mean.first,e]] at h
    exact begin_3 G hwf s s' n pl nt K hn hm e h hpl hlen w N c hc hs hr
   ·obtain ⟨sn,l,hsl⟩:=subs_one hwf (Mean.inT_all hn) (.inl e)
    rw [show Mean.first G.t n pl nt K=[.beg sn pl nt (.row l K)] from by simp [Mean.first,e,hsl,Mean.rowT]] at h
    obtain ⟨s1,h1,rfl⟩:=h
    exact begin_4 G hwf s _ n pl nt K hn hm e sn (by rw [hsl];rfl) (by rw [kidAt,if_pos e,hsl];exact h1) hpl hlen w N c hc hs hr
   ·rw [show Mean.first G.t n pl nt K=n.subs.map fun x=>Mean.Task.beg x pl nt K from by simp [Mean.first,e]] at h
    exact begin_5 G hwf s s' n pl nt K hn hm e h hpl hlen w N c hc hs hr
   ·obtain ⟨sn,l,hsl⟩:=subs_one hwf (Mean.inT_all hn) (.inr (.inl e))
    rw [show Mean.first G.t n pl nt K=[.beg sn pl (nt.set (2*n.ix).toNat pl) (.grp n.ix K)] from by simp [Mean.first,e,hsl]] at h
    obtain ⟨s1,h1,rfl⟩:=h
    exact begin_7 G hwf s _ n pl nt K hn hm e sn (by rw [hsl];rfl) (by rw [kidAt,if_neg (by omega),Mean.kidK,if_pos e];exact h1) hpl hlen w N c hc hs hr
   ·rw [show Mean.first G.t n pl nt K=Mean.choose n pl nt K K from by simp [Mean.first,e]] at h
    exact begin_q G hwf s s' n pl nt K hn hm e h hpl hlen w N c hc hs hr
   ·rw [show Mean.first G.t n pl nt K=[.dcd n pl nt K] from by simp [Mean.first,e]] at h
    obtain ⟨s1,h1,rfl⟩:=h
    exact begin_s G hwf s _ n pl nt K hn hm e h1 hpl hlen w N c hc hs hr
   ·obtain ⟨sn,l,hsl⟩:=subs_one hwf (Mean.inT_all hn) (.inr (.inr e))
    rw [show Mean.first G.t n pl nt K=[.beg sn pl nt (.dec n K)] from by simp [Mean.first,e,hsl]] at h
    obtain ⟨s1,h1,rfl⟩:=h
    exact begin_p G hwf s _ n pl nt K hn hm e sn (by rw [hsl];rfl) (by rw [kidAt,if_neg (by omega),Mean.kidK,if_neg (by omega),if_pos (.inr e)];exact h1) hpl hlen w N c hc hs hr
  ·rw [if_neg hm] at h
   exact begin_met G hwf s s' n pl nt K hn hm h hpl hlen w N c hc hs hr
 | dcd n pl nt K=>exact decide6_any G hwf s s' n pl nt K h
 | go K pl nt=>exact behind_any G hwf s s' K pl nt h
mutual
theorem one_does6 (G:Wr) (hwf:G.wf):∀ {s s':Mean.St} {k:Mean.Task},Mean.One G.t G.at_ s k s'→G.does s k s'
 | s,s',k,.mk h=>task_does6 G hwf s s' k (many_does6 G hwf h)
theorem many_does6 (G:Wr) (hwf:G.wf):∀ {s s':Mean.St} {l:List Mean.Task},Mean.Many G.t G.at_ s l s'→G.chain s l s'
 | _,_,_,.nil=>rfl
 | _,_,_,.cons h1 h2=>⟨_,one_does6 G hwf h1,many_does6 G hwf h2⟩
end
end Go.Proofs.Ytkhkllpdhnmhkaa
namespace Go.Proofs.Ytkhkllpdhnmhkaa
open Go.RowKit
structure RwS (wb T:Nat) (p0 p1 p2 p5 V D:Value) (gb gd:List Nat) (w5 w:World):Prop where
 below:Below wb w5 w
 blk:Blk w wb 73 [p0,p1,p2,V,D,p5,.slice none 0 0]
 bown:w.ownsRow wb 70 1 V gb.length (gb.map (slB T))
 down:w.ownsRow wb 70 1 D gd.length (gd.map (slB T))
 sep:∀ g,V.ownBlock=some g→D.ownBlock≠some g
 bb:∀ g∈gb++gd,wb < g∧Blk w g 4 (List.replicate T (.bool false))
 nd:(gb++gd).Nodup
theorem RwS.pushB {wb T g2 cap:Nat} {p0 p1 p2 p5 V D:Value} {gb gd:List Nat} {w5 w wA wB wC:World} (h:RwS wb T p0 p1 p2 p5 V D gb gd w5 w) (hA:wA=(w.drew).alloc (.cells (Array.replicate T (.bool false)) 4)) (hB:wB=wA.alloc (.cells #[slB T w.heap.size] 70))
  (hg:wB.grownBy wC (V).ownBlock) (hou:wC.ownsRow wb 70 1 (.slice (some ⟨g2,0,none⟩) (gb.length+1) cap) (gb.length+1) (gb.map (slB T)++[slB T w.heap.size])) (hat:(V).ownBlock=some g2∨wB.heap.size≤g2) :
  RwS wb T p0 p1 p2 p5 (.slice (some ⟨g2,0,none⟩) (gb.length+1) cap) D (gb++[w.heap.size]) gd w5 (wC.setCell ⟨wb,3,none⟩ (.slice (some ⟨g2,0,none⟩) (gb.length+1) cap)):=by
 have hbA:Below w.heap.size w wA:=by rw [hA];exact ((zzb _ _).drew).alloc (zzF _) _
 have hsA:wA.heap.size=w.heap.size+1:=by
  have e:(w.drew.alloc (.cells (Array.replicate T (.bool false)) 4)).heap.size=w.drew.heap.size+1:=by simp
  rw [hA];exact e
 have hbB:Below w.heap.size w wB:=by rw [hB];exact hbA.alloc hbA.size _
 have hsB:wB.heap.size=w.heap.size+2:=by rw [hB];simp [hsA]
 have hwb:=h.blk.lt
 have hkB:=h.blk.below hbB hwb
 have hVB:=own_below h.bown hbB
 have hDB:=own_below h.down hbB
 have hVne:∀ g cs,Blk wB g 4 cs→(V).ownBlock≠some g:=fun g cs hb e=>blk_apart hVB hb (by decide) e.symm
 have hVw:(V).ownBlock≠some wb:=fun e=>blk_apart hVB hkB (by decide) e.symm
 have hkC:=hkB.kept (Kept.of_grown' hg) (fun hm=>hVw (by simpa using hm))
 have hsC:wB.heap.size≤wC.heap.size:=hg.size
 have hnew:Blk wB w.heap.size 4 (List.replicate T (.bool false)):=by
  have h1:Blk wA w.heap.size 4 (List.replicate T (.bool false)):=by
   have e:Blk (w.drew.alloc (.cells (List.replicate T (.bool false)).toArray 4)) w.drew.heap.size 4 (List.replicate T (.bool false)):=Blk.new w.drew 4 (List.replicate T (.bool false))
   rw [List.toArray_replicate] at e
   rw [hA]
   exact e
  rw [hB]
  exact h1.alloc _
 have old:∀ g∈gb++gd,Blk wB g 4 (List.replicate T (.bool false)):=fun g hg=>(h.bb g hg).2.below hbB (h.bb g hg).2.lt
 have fin:∀ g,wb < g→Blk wB g 4 (List.replicate T (.bool false))→Blk (wC.setCell ⟨wb,3,none⟩ (.slice (some ⟨g2,0,none⟩) (gb.length+1) cap)) g 4 (List.replicate T (.bool false)):=fun g hgt hb =>
  (hb.kept (Kept.of_grown' hg) (fun hm=>hVne g _ hb (by simpa using hm))).far (p:=⟨wb,3,none⟩) (show g≠wb from by omega) _
 refine ⟨?_,hkC.set_ 3 _,?_,?_,?_,fun g hg'=>?_,?_⟩
 ·have h1:Below wb w5 wB:=h.below.trans (hbB.mono (Nat.le_of_lt hwb))
  have h2:Below wb w5 wC:=Below.kept h1 (Kept.of_grown' hg) (fun k hk=>(h.bown.lt k (by simpa using hk)).1) (by omega)
  exact Below.kept h2 (Kept.setCell _ _) (fun k hk=>by rw [zzE] at hk;rw [hk];exact zzF _) (by omega)
 ·rw [zzG,zzT]
  exact own_kept hou (Kept.setCell _ _) (fun x hx hm=>by
   rw [zzE] at hm
   exact blk_apart hou hkC (by decide) (by rw [hx,hm]))
 ·refine own_kept (own_kept hDB (Kept.of_grown' hg) (fun x hx hm=>h.sep x (by simpa using hm) hx)) (Kept.setCell _ _) (fun x hx hm=>?_)
  rw [zzE] at hm
  exact blk_apart hDB hkB (by decide) (by rw [hx,hm])
 ·intro g hg1 hg2
  have e:g2=g:=by simpa [Value.ownBlock] using hg1
  subst e
  rcases hat with e | e
  ·exact h.sep g2 e hg2
  ·have:=(hDB.lt g2 hg2).2;omega
 ·have hgt:∀ x∈gb++gd,wb < x∧x < w.heap.size:=fun x hx=>⟨(h.bb x hx).1,(h.bb x hx).2.lt⟩
  simp only [zzM,zzE] at hg'
  rcases hg' with (hg' | rfl) | hg'
  ·exact ⟨(hgt g (zzW _ hg')).1,fin g (hgt g (zzW _ hg')).1 (old g (zzW _ hg'))⟩
  ·exact ⟨hwb,fin _ hwb hnew⟩
  ·exact ⟨(hgt g (zzV _ hg')).1,fin g (hgt g (zzV _ hg')).1 (old g (zzV _ hg'))⟩
 ·have hnd:=h.nd
  have hlt:∀ x∈gb++gd,x < w.heap.size:=fun x hx=>(h.bb x hx).2.lt
  rw [List.append_assoc,List.nodup_append] at *
  refine ⟨hnd.1,?_,fun a ha b hb=>?_⟩
  ·rw [List.singleton_append,List.nodup_cons]
   exact ⟨fun hm=>by have:=hlt _ (zzV _ hm);omega,hnd.2.1⟩
  ·rw [List.singleton_append,zzN] at hb
   rcases hb with rfl | hb
   ·have:=hlt a (zzW _ ha);omega
   ·exact hnd.2.2 a ha b hb
theorem RwS.pushD {wb T g2 cap:Nat} {p0 p1 p2 p5 V D:Value} {gb gd:List Nat} {w5 w wA wB wC:World} (h:RwS wb T p0 p1 p2 p5 V D gb gd w5 w) (hA:wA=(w.drew).alloc (.cells (Array.replicate T (.bool false)) 4)) (hB:wB=wA.alloc (.cells #[slB T w.heap.size] 70))
  (hg:wB.grownBy wC (D).ownBlock) (hou:wC.ownsRow wb 70 1 (.slice (some ⟨g2,0,none⟩) (gd.length+1) cap) (gd.length+1) (gd.map (slB T)++[slB T w.heap.size])) (hat:(D).ownBlock=some g2∨wB.heap.size≤g2) :
  RwS wb T p0 p1 p2 p5 V (.slice (some ⟨g2,0,none⟩) (gd.length+1) cap) gb (gd++[w.heap.size]) w5 (wC.setCell ⟨wb,4,none⟩ (.slice (some ⟨g2,0,none⟩) (gd.length+1) cap)):=by
 have hbA:Below w.heap.size w wA:=by rw [hA];exact ((zzb _ _).drew).alloc (zzF _) _
 have hsA:wA.heap.size=w.heap.size+1:=by
  have e:(w.drew.alloc (.cells (Array.replicate T (.bool false)) 4)).heap.size=w.drew.heap.size+1:=by simp
  rw [hA];exact e
 have hbB:Below w.heap.size w wB:=by rw [hB];exact hbA.alloc hbA.size _
 have hsB:wB.heap.size=w.heap.size+2:=by rw [hB];simp [hsA]
 have hwb:=h.blk.lt
 have hkB:=h.blk.below hbB hwb
 have hVB:=own_below h.down hbB
 have hDB:=own_below h.bown hbB
 have hVne:∀ g cs,Blk wB g 4 cs→(D).ownBlock≠some g:=fun g cs hb e=>blk_apart hVB hb (by decide) e.symm
 have hVw:(D).ownBlock≠some wb:=fun e=>blk_apart hVB hkB (by decide) e.symm
 have hkC:=hkB.kept (Kept.of_grown' hg) (fun hm=>hVw (by simpa using hm))
 have hsC:wB.heap.size≤wC.heap.size:=hg.size
 have hnew:Blk wB w.heap.size 4 (List.replicate T (.bool false)):=by
  have h1:Blk wA w.heap.size 4 (List.replicate T (.bool false)):=by
   have e:Blk (w.drew.alloc (.cells (List.replicate T (.bool false)).toArray 4)) w.drew.heap.size 4 (List.replicate T (.bool false)):=Blk.new w.drew 4 (List.replicate T (.bool false))
   rw [List.toArray_replicate] at e
   rw [hA]
   exact e
  rw [hB]
  exact h1.alloc _
 have old:∀ g∈gb++gd,Blk wB g 4 (List.replicate T (.bool false)):=fun g hg=>(h.bb g hg).2.below hbB (h.bb g hg).2.lt
 have fin:∀ g,wb < g→Blk wB g 4 (List.replicate T (.bool false))→Blk (wC.setCell ⟨wb,4,none⟩ (.slice (some ⟨g2,0,none⟩) (gd.length+1) cap)) g 4 (List.replicate T (.bool false)):=fun g hgt hb =>
  (hb.kept (Kept.of_grown' hg) (fun hm=>hVne g _ hb (by simpa using hm))).far (p:=⟨wb,4,none⟩) (show g≠wb from by omega) _
 refine ⟨?_,hkC.set_ 4 _,?_,?_,?_,fun g hg'=>?_,?_⟩
 ·have h1:Below wb w5 wB:=h.below.trans (hbB.mono (Nat.le_of_lt hwb))
  have h2:Below wb w5 wC:=Below.kept h1 (Kept.of_grown' hg) (fun k hk=>(h.down.lt k (by simpa using hk)).1) (by omega)
  exact Below.kept h2 (Kept.setCell _ _) (fun k hk=>by rw [zzE] at hk;rw [hk];exact zzF _) (by omega)
 ·refine own_kept (own_kept hDB (Kept.of_grown' hg) (fun x hx hm=>h.sep x hx (by simpa using hm))) (Kept.setCell _ _) (fun x hx hm=>?_)
  rw [zzE] at hm
  exact blk_apart hDB hkB (by decide) (by rw [hx,hm])
 ·rw [zzG,zzT]
  exact own_kept hou (Kept.setCell _ _) (fun x hx hm=>by
   rw [zzE] at hm
   exact blk_apart hou hkC (by decide) (by rw [hx,hm]))
 ·intro g hg1 hg2
  have e:g2=g:=by simpa [Value.ownBlock] using hg2
  subst e
  rcases hat with e | e
  ·exact h.sep g2 hg1 e
  ·have:=(hDB.lt g2 hg1).2;omega
 ·have hgt:∀ x∈gb++gd,wb < x∧x < w.heap.size:=fun x hx=>⟨(h.bb x hx).1,(h.bb x hx).2.lt⟩
  simp only [zzM,zzE] at hg'
  rcases hg' with hg' | hg' | rfl
  ·exact ⟨(hgt g (zzW _ hg')).1,fin g (hgt g (zzW _ hg')).1 (old g (zzW _ hg'))⟩
  ·exact ⟨(hgt g (zzV _ hg')).1,fin g (hgt g (zzV _ hg')).1 (old g (zzV _ hg'))⟩
  ·exact ⟨hwb,fin _ hwb hnew⟩
 ·have hnd:=h.nd
  have hlt:∀ x∈gb++gd,x < w.heap.size:=fun x hx=>(h.bb x hx).2.lt
  rw [←List.append_assoc]
  refine List.nodup_append.2 ⟨hnd,by simp,fun a ha b hb=>?_⟩
  rw [zzE] at hb
  have:=hlt a ha
  omega
end Go.Proofs.Ytkhkllpdhnmhkaa
namespace Go.Proofs.Ytkhkllpdhnmhkaa
open Go.RowKit
theorem own_rda {w:World} {S:Nat→Prop} {base size n c:Nat} {e:TypeId} {A:Option Addr} {xs:List Value} (h:w.ownsRow base e size (.slice A n c) n xs) (hS:∀ g,(Value.slice A n c).ownBlock=some g→S g):RdA w S size A n c xs:=by
 rcases h.2 with ⟨h0,hx⟩ | ⟨g,cap,cur,hv,hb,hh,hnc,hcm,hcs,ht⟩
 ·simp only [Value.slice.injEq] at h0
  obtain ⟨rfl,h1,rfl⟩:=h0
  subst h1
  have hl:=h.1
  rw [Nat.zero_mul] at hl
  rw [List.length_eq_zero_iff.1 hl]
  exact RdA.none_
 ·simp only [Value.slice.injEq] at hv
  obtain ⟨rfl,_,rfl⟩:=hv
  have hr:=Reads.of_own h
  refine ⟨hr.1,hr.2.1,hr.2.2.1,(fun e=>by cases e),fun hn=>?_⟩
  obtain ⟨b,o,e,_,hc⟩:=hr.2.2.2 hn
  simp only [zzd,Addr.mk.injEq,and_true] at e
  obtain ⟨rfl,rfl⟩:=e
  exact ⟨g,0,rfl,hS g rfl,hc⟩
theorem rowM_st0 (nt i:Nat) (b:Bool):rowM st0 nt i b=List.replicate (nt+1) (.bool false):=by
 unfold rowM
 rw [show (fun p=>Value.bool (decide (st0.met (i,p,b)≠0)))=fun _=>Value.bool false from funext fun p=>by simp [st0]]
 rw [List.map_const']
 simp
theorem rowE_st0 (nt:Nat):rowE st0 nt=List.replicate (nt+1) (.bool false):=by
 unfold rowE
 rw [show (fun p=>Value.bool (st0.out.any fun q=>q.1==p))=fun _=>Value.bool false from funext fun p=>by simp [st0]]
 rw [List.map_const']
 simp
theorem start6 {base TB n c a0 NL eb wb nb c4 bc dc:Nat} {At A4 BA DA:Option Addr} {t:List Int} {L4:List NdV} {u:Mean.Un} {gb gd:List Nat} {w4 w5 w6 w8:World}
  (htb:TbR [] TB (.slice A4 L4.length c4) L4 w4) (htx:RdA w4 (· < w4.heap.size) 1 At n c (t.map (Value.int .i64))) (h45:Below w4.heap.size w4 w5) (heb:Blk w5 eb 4 (List.replicate (n+1) (.bool false))) (e1:eb=w4.heap.size) (e2:wb=w4.heap.size+1)
  (hr:RwS wb (n+1) (.pointer (some ⟨TB,0,none⟩)) (.slice At n c) (.int .i64 (a0:Int)) (.slice (some ⟨eb,0,none⟩) (n+1) (n+1)) (.slice BA gb.length bc) (.slice DA gd.length dc) gb gd w5 w6) (h68:Below w6.heap.size w6 w8) {cs:List Value} (hnb:Blk w8 nb 3 cs) (hn6:w6.heap.size≤nb) (hbase:base≤w4.heap.size) :
  let G:Wr:=⟨base,wb,eb,TB,A4,c4,L4,BA,DA,bc,dc,gb,gd,At,n,c,t,a0,NL,u⟩
  G.cst w8∧G.st w8 st0∧G.still w8 nb∧G.fixB.Nodup:=by
 intro G
 have hw5:w4.heap.size < w5.heap.size:=by rw [←e1];exact heb.lt
 have hwb6:=hr.blk.lt
 have hwb8:=hr.blk.below h68 hr.blk.lt
 have heb6:Blk w6 eb 4 (List.replicate (n+1) (.bool false)):=heb.below hr.below (by omega)
 have heb8:=heb6.below h68 heb6.lt
 have hbb8:∀ g∈gb++gd,wb < g∧Blk w8 g 4 (List.replicate (n+1) (.bool false)):=fun g hg=>⟨(hr.bb g hg).1,(hr.bb g hg).2.below h68 (hr.bb g hg).2.lt⟩
 have hfix:∀ b∈G.fixB,eb≤b∧b < w8.heap.size:=fun b hb=>by
  rcases zzN.1 hb with e | hb
  ·have e:b=wb:=e
   exact ⟨by omega,by rw [e];exact hwb8.lt⟩
  rcases zzN.1 hb with e | hb
  ·have e:b=eb:=e
   exact ⟨by omega,by rw [e];exact heb8.lt⟩
  ·have:=hbb8 b hb;exact ⟨by omega,this.2.lt⟩
 have hout:outB6 wb w8=none:=by unfold outB6;rw [show w8.cell? ⟨wb,6,none⟩=some (.slice none 0 0) from hwb8.cell 6];rfl
 have hmut:∀ b,b∈G.mut w8→b∈G.fixB:=fun b hm=>by
  rcases mem_mut6.1 hm with e | e
  ·exact e
  ·have e:outB6 wb w8=some b:=e
   rw [hout] at e;cases e
 have hblk:∀ b,b < w4.heap.size→w8.heap[b]?=w4.heap[b]?:=fun b hb=>by
  rw [h68.block b (by omega),hr.below.block b (by omega),h45.block b hb]
 have hle:w4.heap.size≤w8.heap.size:=zzU (Nat.le_of_lt hw5) (zzU hr.below.size h68.size)
 have hstill:∀ b,b < w4.heap.size→G.still w8 b:=fun b hb=>⟨by omega,fun hm=>by have:=(hfix b (hmut b hm)).1;omega⟩
 have move:∀ {S:Nat→Prop} {size n c:Nat} {A:Option Addr} {xs:List Value},(∀ b,S b→b < w4.heap.size)→RdA w4 S size A n c xs→RdA w8 (G.still w8) size A n c xs:=fun hS h=>(h.go fun b hb=>hblk b (hS b hb)).mono fun b hb=>hstill b (hS b hb)
 have htbl:=htb.blk.lt
 have apart:∀ {V:Value} {n:Nat} {xs:List Value},w8.ownsRow wb 70 1 V n xs→∀ g,V.ownBlock=some g→G.still w8 g:=fun {V n xs} ho g hg=>⟨(ho.lt g hg).2,fun hm=>by
  have hm:=hmut g hm
  rcases zzN.1 hm with e | hm
  ·exact blk_apart ho hwb8 (by decide) (by rw [hg];exact congrArg some e.symm)
  rcases zzN.1 hm with e | hm
  ·exact blk_apart ho heb8 (by decide) (by rw [hg];exact congrArg some e.symm)
  ·exact blk_apart ho (hbb8 g hm).2 (by decide) hg.symm⟩
 refine ⟨⟨fun b hb=>(hfix b hb).2,zzU hbase hle,⟨hstill TB htbl,(hblk TB htbl).trans htb.blk⟩,move (S:=(· < w4.heap.size)) (fun b hb=>hb) (own_rda htb.own fun g hg=>(htb.own.lt g hg).2),fun v hv=>⟨move (fun b hb=>hb.1) (htb.els v hv).1,move (fun b hb=>hb.1) (htb.els v hv).2⟩,move (fun b hb=>hb) htx,?_,?_⟩,⟨⟨.slice none 0 0,[],hwb8,World.ownsRow_nil _ _ _ _,rfl,by simp⟩,fun i g hg=>?_,fun i g hg=>?_,?_,by simp [st0]⟩,⟨hnb.lt,fun hm=>?_⟩,?_⟩
 ·have ho:=own_below hr.bown h68
  exact own_rda ho (apart ho)
 ·have ho:=own_below hr.down h68
  exact own_rda ho (apart ho)
 ·rw [rowM_st0]
  exact (hbb8 g (zzW _ (zzL hg))).2
 ·rw [rowM_st0]
  exact (hbb8 g (zzV _ (zzL hg))).2
 ·rw [rowE_st0]
  exact heb8
 ·have hm:=hmut nb hm
  rcases zzN.1 hm with e | hm
  ·have e:nb=wb:=e;omega
  rcases zzN.1 hm with e | hm
  ·have e:nb=eb:=e;omega
  ·have:=(hr.bb nb hm).2.lt;omega
 ·refine List.nodup_cons.2 ⟨fun hm=>?_,List.nodup_cons.2 ⟨fun hm=>?_,hr.nd⟩⟩
  ·rcases zzN.1 hm with e | hm
   ·have e:wb=eb:=e;omega
   ·have h1:=(hr.bb _ hm).1
    have h1:wb < wb:=h1
    omega
  ·have h1:=(hr.bb _ hm).1
   have h1:wb < eb:=h1
   omega
end Go.Proofs.Ytkhkllpdhnmhkaa
namespace Go.Proofs.Ytkhkllpdhnmhkaa
open Go.RowKit Mach
def turnVals:Job→List Value
 | .pair i k=>[.int .i64 (i:Int),.int .i64 (k:Int),.int .i64 0,.int .i64 0]
 | .back c old=>[.int .i64 0,.int .i64 0,.int .i64 ((c:Int)+1),.int .i64 old]
theorem turnVals_length (j:Job):(turnVals j).length=4:=by cases j <;> rfl
def turnRow:List Job→List Value
 | []=>[]
 | j :: l=>turnRow l++turnVals j
theorem turnRow_length (l:List Job):(turnRow l).length=l.length*4:=by
 induction l with
 | nil=>rfl
 | cons j l ih=>rw [turnRow,zzG,ih,turnVals_length,zzO];omega
structure Nx where
 w0:World
 A:Option Addr
 n:Nat
 c:Nat
 start:Int
 cl:Nat
 At:Option Addr
 nt:Nat
 ct:Nat
 M:Nat
 C:Nat
 hM:M=w0.heap.size+1
 hC:C=w0.heap.size+2
structure Nn (x:Nx) (LV:Value) (s:MS) (w:World):Prop where
 below:Below x.w0.heap.size x.w0 w
 box:Blk w x.w0.heap.size 31 [.slice x.A x.n x.c,.int .i64 x.start,.int .i64 (x.cl:Int)]
 met:Blk w x.M 4 (s.met.map Value.bool)
 capt:Blk w x.C 3 (s.caps.map (Value.int .i64))
 own:w.ownsRow (x.C+1) 94 4 LV s.todo.length (turnRow s.todo)
section
variable {x:Nx} {LV LV':Value} {s:MS} {w w':World}
theorem Nn.drewN (h:Nn x LV s w) (k:Nat):Nn x LV s (w.drewN k):=⟨bdrewN h.below k,h.box.drewN k,h.met.drewN k,h.capt.drewN k,own_drewN h.own k⟩
theorem Nn.later (h:Nn x LV s w) (hb:Below w.heap.size w w'):Nn x LV s w' :=
 ⟨h.below.trans (hb.mono h.below.size),h.box.below hb h.box.lt,h.met.below hb h.met.lt,h.capt.below hb h.capt.lt,own_below h.own hb⟩
theorem Nn.alloc (h:Nn x LV s w) (o:Obj):Nn x LV s (w.alloc o):=h.later ((zzb _ _).alloc (zzF _) _)
theorem Nn.far (h:Nn x LV s w):∀ b,LV.ownBlock=some b→x.C+1≤b:=fun b hb=>(h.own.lt b hb).1
theorem Nx.lo (x:Nx):x.M=x.w0.heap.size+1∧x.C=x.w0.heap.size+2:=⟨x.hM,x.hC⟩
theorem Nn.marked (h:Nn x LV s w) (q:Nat):Nn x LV { s with met:=s.met.set q true } (w.setCell ⟨x.M,q,none⟩ (.bool true)):=by
 refine ⟨Below.kept h.below (Kept.setCell _ _) (by intro g hg;rw [zzE] at hg;rw [hg];have:=x.lo;simp only [];omega) h.below.size,h.box.far (p:=⟨x.M,q,none⟩) (by have:=x.lo;simp only [];omega) _,?_,h.capt.far (p:=⟨x.M,q,none⟩) (by have:=x.lo;simp only [];omega) _,own_kept h.own (Kept.setCell _ _) (fun b hb hm=>by rw [zzE] at hm;have:=h.far b hb;have:=x.lo;simp only [] at hm;omega)⟩
 have:=h.met.set_ q (.bool true)
 rw [←List.map_set] at this
 exact this
theorem Nn.captured (h:Nn x LV s w) (q:Nat) (u:Int):Nn x LV { s with caps:=s.caps.set q u } (w.setCell ⟨x.C,q,none⟩ (.int .i64 u)):=by
 refine ⟨Below.kept h.below (Kept.setCell _ _) (by intro g hg;rw [zzE] at hg;rw [hg];have:=x.lo;simp only [];omega) h.below.size,h.box.far (p:=⟨x.C,q,none⟩) (by have:=x.lo;simp only [];omega) _,h.met.far (p:=⟨x.C,q,none⟩) (by have:=x.lo;simp only [];omega) _,?_,own_kept h.own (Kept.setCell _ _) (fun b hb hm=>by rw [zzE] at hm;have:=h.far b hb;have:=x.lo;simp only [] at hm;omega)⟩
 have:=h.capt.set_ q (.int .i64 u)
 rw [←List.map_set] at this
 exact this
theorem Nn.pushed (h:Nn x LV s w) (hg:w.grownBy w' LV.ownBlock) {l:List Job} (ho:w'.ownsRow (x.C+1) 94 4 LV' l.length (turnRow l)):Nn x LV' { s with todo:=l } w':=by
 have k:Kept w w' LV.ownBlock.toList:=Kept.of_grown' hg
 have n3:∀ g,g < x.C+1→g ∉ LV.ownBlock.toList:=fun g hl hm=>by have:=h.far g (by simpa using hm);have:=x.lo;omega
 exact ⟨Below.kept h.below k (by intro g hg;have:=h.far g (by simpa using hg);have:=x.lo;omega) h.below.size,h.box.kept k (n3 _ (by have:=x.lo;omega)),h.met.kept k (n3 _ (by have:=x.lo;omega)),h.capt.kept k (n3 _ (by have:=x.lo;omega)),ho⟩
theorem Nn.cut (h:Nn x LV s w) {l:List Job} (ho:w.ownsRow (x.C+1) 94 4 LV' l.length (turnRow l)):Nn x LV' { s with todo:=l } w :=
 ⟨h.below,h.box,h.met,h.capt,ho⟩
theorem Nn.top {j:Job} {r:List Job} (h:Nn x LV s w) (ht:s.todo=j :: r) :
  ∃ g c,LV=.slice (some ⟨g,0,none⟩) (r.length+1) c∧r.length+1≤c∧c≤9223372036854775807∧g < w.heap.size∧(∀ q u,(turnVals j)[q]?=some u→w.cell? ⟨g,r.length*4+q,none⟩=some u) ∧
   w.ownsRow (x.C+1) 94 4 (.slice (some ⟨g,0,none⟩) r.length c) r.length (turnRow r):=by
 have ho:=h.own
 rw [ht,zzO] at ho
 obtain ⟨g,c,cur,hv,hbg,hh,hnc,hcm,hcs,htk⟩:∃ g c cur,LV=.slice (some ⟨g,0,none⟩) (r.length+1) c∧x.C+1≤g∧w.heap[g]?=some (.cells cur 94 (0,0))∧r.length+1≤c∧c≤9223372036854775807∧cur.size=c*4∧cur.toList.take ((r.length+1)*4)=turnRow (j :: r):=by
  rcases ho.2 with ⟨_,h0⟩ | ⟨g,c,cur,hv,h1,h2,h3,h4,h5,h6⟩
  ·simp at h0
  ·exact ⟨g,c,cur,hv,h1,h2,h3,h4,h5,h6⟩
 subst hv
 have hG:Blk w g 94 cur.toList:=hh
 refine ⟨g,c,rfl,hnc,hcm,hG.lt,?_,own_shrink (ys:=turnVals j) ho (turnRow_length r) (Nat.le_succ _) (by simp)⟩
 intro q u hq
 rw [hG.cell]
 have hq5:q < 4:=by
  have:=(zzK.1 hq).1
  rw [turnVals_length] at this;exact this
 have e1:(cur.toList.take ((r.length+1)*4))[r.length*4+q]?=cur.toList[r.length*4+q]?:=List.getElem?_take_of_lt (by omega)
 rw [←e1,htk,turnRow,List.getElem?_append_right (by rw [turnRow_length];omega),turnRow_length,Nat.add_sub_cancel_left]
 exact hq
end
theorem new_at9 (w:World) (t:TypeId) (cs:List Value):∀ j u,cs[j]?=some u→(w.alloc (.cells cs.toArray t)).cell? ((⟨w.heap.size,0,none⟩:Addr).add j)=some u:=by
 intro j u hj
 rw [add_lit,Nat.zero_add]
 exact ((Blk.new w t cs).cell j).trans hj
theorem Nn.same {x:Nx} {LV:Value} {s s':MS} {w:World} (h:Nn x LV s w) (h1:s'.met=s.met) (h2:s'.caps=s.caps) (h3:s'.todo=s.todo):Nn x LV s' w :=
 ⟨h.below,h.box,by rw [h1];exact h.met,by rw [h2];exact h.capt,by rw [h3];exact h.own⟩
theorem info_turn:(Try.prog.info? 94).map (fun i=>(i.zero,i.size,i.bytes))=some (some (.agg #[.int .i64 0,.int .i64 0,.int .i64 0,.int .i64 0]),4,32):=by kernel_rfl
structure Nk (x:Nx) (p:Prg) (t:List Int) (L:List InV):Prop where
 rp:ReadsP x.w0 x.w0.heap.size x.A x.n x.c L
 rt:Reads x.w0 x.w0.heap.size 1 x.At x.nt x.ct (t.map (Value.int .i64))
 pi:p.insts=insL L
 st:p.start=x.start
 cp:p.caps=(x.cl:Int)
 chk:checkB p=true
 ntl:x.nt≤1000
theorem Nk.tl {x:Nx} {p:Prg} {t:List Int} {L:List InV} (h:Nk x p t L):t.length=x.nt:=by have:=h.rt.len;simpa using this
theorem Nk.nl {x:Nx} {p:Prg} {t:List Int} {L:List InV} (h:Nk x p t L):p.insts.length=x.n:=by rw [h.pi,insL,zzP];exact h.rp.len
end Go.Proofs.Ytkhkllpdhnmhkaa
namespace Go.Proofs.Ytkhkllpdhnmhkaa
open Go.ChangeShapes Go.WideShapes Go.ChangeAt Go.RowKit
theorem own:ownKnob Try.prog.godebug=none:=by kernel_rfl
theorem laidOut:laidOutB Try.prog=true:=by kernel_rfl
theorem post_of_below {H:Type} {enc:TypeId × Value→H} {P:Program} {f:Func} {s:ChangeSpec} {apart fresh handsOn:Bool} {W W':World} {args:Array Value} {v:Value} {ds gs:List (DataW H)} {before pa pv:List MemPlace}
  (hW:DataW.Whole enc P f.params.toList s.vars apart W args.toList ds gs before)
  (hres:∀ (b:Nat) (sp:Nat→Bool) (hd:Bool),DataW.TrodAll enc P W' b sp hd f.resultTypes.toList (v.resultList f.resultTypes.size) (s.fn H (ds++gs)).results [])
  (hargs:DataW.TrodAll enc P W' 0 (fun b=>decide (b < W.heap.size)) true f.params.toList args.toList (s.fn H (ds++gs)).args pa)
  (hvars:DataW.TrodVars enc P W' (fun b=>decide (b < W.heap.size)) s.vars (s.fn H (ds++gs)).vars pv)
  (hps:before=pa++pv) (hb:Below W.heap.size W W'):s.post enc P f apart fresh handsOn false W args v W':=by
 refine ⟨ds,gs,before,[],pa,pv,hW,hres _ _ _,hargs,hvars,World.keptBut_mono (fun p hp=>⟨hp,?_⟩) (hb.frame (·∈before)),fun h=>by cases h⟩
 rw [hps,zzM] at hp
 exact Or.inr hp
theorem one_le_bulk {H:Type} (d:DataW H):1≤Rows.uptoBulk d:=by
 cases d with
 | lit l=>cases l <;> simp [Rows.uptoBulk]
 | nil=>simp [Rows.uptoBulk]
 | ptr d=>simp [Rows.uptoBulk]
 | slice elems spare=>simp [Rows.uptoBulk]
 | agg parts=>simp [Rows.uptoBulk]
 | iface t d=>simp [Rows.uptoBulk]
 | map entries=>simp [Rows.uptoBulk]
 | held h=>simp [Rows.uptoBulk]
theorem part_bulk {H:Type} {d:DataW H} {l:List (DataW H)} (h:d∈l):Rows.uptoBulk d≤Rows.uptoBulkAll l:=by
 induction l with
 | nil=>cases h
 | cons x r ih =>
  simp only [Rows.uptoBulkAll]
  cases zzN.1 h with
  | inl e=>subst e;omega
  | inr e=>have:=ih e;omega
theorem length_bulk {H:Type} (l:List (DataW H)):l.length≤Rows.uptoBulkAll l:=by
 induction l with
 | nil=>simp [Rows.uptoBulkAll]
 | cons x r ih=>have:=one_le_bulk x;simp only [Rows.uptoBulkAll,zzO];omega
theorem small {H:Type} {l:List (DataW H)} (hk:Rows.uptoSmall H l=true):Rows.uptoBulkAll l≤1048576:=of_decide_eq_true hk
theorem spot_none {w:World} {a:Addr} {u:Value} (h:w.cell? a=some u):a=⟨a.block,a.off,none⟩:=by
 unfold World.cell? at h
 split at h
 ·split at h
  ·cases h
  ·rename_i hs
   cases a
   simp_all
 ·cases h
theorem cells_slice_r:Try.prog.cellsOf 22=1:=by kernel_rfl
theorem cells_rng:Try.prog.cellsOf 49=2:=by kernel_rfl
theorem cells_i:Try.prog.cellsOf 3=1:=by kernel_rfl
theorem flat_at {l:List (Int × Int)} {j:Nat} {u:Value} (h:(flat l)[j]?=some u):∃ q x,l[q]?=some x∧((j=q*2∧u=.int .i64 x.1)∨(j=q*2+1∧u=.int .i64 x.2)):=by
 have hj:=(zzK.1 h).1
 rw [flat_length] at hj
 have hx:l[j / 2]?=some l[j / 2]:=zzJ (by omega)
 have hg:=flat_get l _ _ hx
 refine ⟨j / 2,_,hx,?_⟩
 rcases (show j=j / 2*2∨j=j / 2*2+1 from by omega) with e | e
 ·refine .inl ⟨e,?_⟩
  rw [e,hg.1] at h
  exact (Option.some.inj h).symm
 ·refine .inr ⟨e,?_⟩
  rw [e,hg.2] at h
  exact (Option.some.inj h).symm
theorem bulk_mem {H:Type} {d:DataW H} {l:List (DataW H)} (h:d∈l):1≤Rows.uptoBulk d∧Rows.uptoBulk d≤Rows.uptoBulkAll l:=⟨one_le_bulk d,part_bulk h⟩
theorem open_rng {H:Type} {enc:TypeId × Value→H} {W:World} {fuel:Nat} {v:Value} {x:DataW H × List MemPlace}
  (h:DataW.trod enc Try.prog W 0 (fun _=>true) true fuel 22 [v]=some x) :
  ∃ (A:Option Addr) (n c:Nat) (l:List (Int × Int)),v=.slice A n c∧(A=none→c=0)∧Reads W W.heap.size 2 A n c (flat l)∧(∀ y∈l,(Lit.int .i64 y.1).wf=true∧(Lit.int .i64 y.2).wf=true)∧n≤Rows.uptoBulk x.1:=by
 rcases Go.Deep.open_slice_pairs Try.underlying22 Try.underlying49 cells_rng rfl rfl cells_i cells_i h with ⟨hcs,hx⟩ | ⟨a,len,cap,m,n,V0,V1,D0,D1,P0,P1,hcs,hb,hl,hm,hmm,hx,hi⟩
 ·simp only [List.cons.injEq,and_true] at hcs
  subst hcs
  exact ⟨none,0,0,[],rfl,fun _=>rfl,Reads.none_,by simp,by omega⟩
 ·simp only [List.cons.injEq,and_true] at hcs
  subst hcs
  simp only [if_true] at hmm
  subst hmm
  have each:∀ i,∃ q:Int × Int,i < m→W.cell? (a.add (i*2))=some (.int .i64 q.1)∧W.cell? (a.add (i*2+1))=some (.int .i64 q.2)∧(Lit.int .i64 q.1).wf=true∧(Lit.int .i64 q.2).wf=true:=by
   intro i
   by_cases him:i < m
   ·obtain ⟨h0,h1,h2,h3⟩:=hi i him
    obtain ⟨n0,e0,_,w0⟩:=DataW.trod_int Try.underlying3 h2
    obtain ⟨n1,e1,_,w1⟩:=DataW.trod_int Try.underlying3 h3
    simp only [List.cons.injEq,and_true] at e0 e1
    exact ⟨(n0,n1),fun _=>⟨by rw [h0,e0],by rw [h1,e1],w0,w1⟩⟩
   ·exact ⟨(0,0),fun h=>absurd h him⟩
  obtain ⟨q,hq⟩:∃ q:Nat→Int × Int,∀ i,i < m→W.cell? (a.add (i*2))=some (.int .i64 (q i).1)∧W.cell? (a.add (i*2+1))=some (.int .i64 (q i).2)∧(Lit.int .i64 (q i).1).wf=true∧(Lit.int .i64 (q i).2).wf=true :=
   ⟨fun i=>Classical.choose (each i),fun i=>Classical.choose_spec (each i)⟩
  have hll:((List.range len).map q).length=len:=by simp
  refine ⟨some a,len,m,(List.range len).map q,rfl,(fun h=>by cases h),⟨hl,by unfold maxLen at hm;omega,by rw [flat_length,hll],fun hn=>?_⟩,fun y hy=>?_,?_⟩
  ·have h0:=(hq 0 (by omega)).1
   rw [Nat.zero_mul,Addr.add,if_pos rfl] at h0
   have ha:=spot_none h0
   have hlt:=World.block_lt_of_cell? W _ h0
   refine ⟨a.block,a.off,by rw [←ha],hlt,fun j u hu=>?_⟩
   obtain ⟨i,x,hx1,hor⟩:=flat_at hu
   have hil:i < len:=by have:=(zzK.1 hx1).1;rw [hll] at this;exact this
   obtain rfl:q i=x:=by simpa [hil] using hx1
   have hqi:=hq i (by omega)
   rcases hor with ⟨rfl,rfl⟩ | ⟨rfl,rfl⟩
   ·have:=hqi.1
    rwa [ha,add_lit] at this
   ·have:=hqi.2.1
    rwa [ha,add_lit] at this
  ·obtain ⟨i,hi1,rfl⟩:=List.mem_map.1 hy
   have:=hq i (by have:=List.mem_range.1 hi1;omega)
   exact ⟨this.2.2.1,this.2.2.2⟩
  ·rw [hx]
   have h1:=length_bulk ((List.range len).map fun i=>DataW.agg (H:=H) [D0 i,D1 i])
   rw [zzP,List.length_range] at h1
   simp only [Rows.uptoBulk]
   omega
theorem cells_node:Try.prog.cellsOf 25=9:=by kernel_rfl
theorem cells_nodes:Try.prog.cellsOf 23=1:=by kernel_rfl
theorem cells_b:Try.prog.cellsOf 4=1:=by kernel_rfl
theorem cells_s:Try.prog.cellsOf 9=1:=by kernel_rfl
theorem list9 {α:Type} {cs:List α} (h:cs.length=9):∃ c0 c1 c2 c3 c4 c5 c6 c7 c8,cs=[c0,c1,c2,c3,c4,c5,c6,c7,c8]:=by
 match cs,h with
 | [c0,c1,c2,c3,c4,c5,c6,c7,c8],_=>exact ⟨c0,c1,c2,c3,c4,c5,c6,c7,c8,rfl⟩
section
variable {H:Type} {enc:TypeId × Value→H} {W:World}
theorem open_node:∀ (N:Nat) (fuel:Nat) (cs:List Value) (x:DataW H × List MemPlace),DataW.trod enc Try.prog W 0 (fun _=>true) true fuel 25 cs=some x→Rows.uptoBulk x.1≤N→N≤1048576 →
  ∃ t:Ta,cs=t.vals∧RT W (· < W.heap.size) t:=by
 intro N
 induction N with
 | zero =>
  intro fuel cs x _ hN _
  have:=one_le_bulk x.1
  omega
 | succ N ih =>
  intro fuel cs x h hN hM
  obtain ⟨xs,n,_,rfl,hl9,hlen,hf⟩:=DataW.trod_struct Try.underlying25 h
  rw [cells_node] at hl9
  obtain ⟨c0,c1,c2,c3,c4,c5,c6,c7,c8,rfl⟩:=list9 hl9
  obtain ⟨y0,y1,y2,y3,y4,y5,y6,y7,y8,rfl⟩:=list9 (cs:=xs) hlen
  have h0:DataW.trod enc Try.prog W 0 (fun _=>true) true n 3 (([c0,c1,c2,c3,c4,c5,c6,c7,c8].drop 0).take (Try.prog.cellsOf 3))=some y0:=hf 0 _ rfl
  rw [cells_i] at h0
  change DataW.trod enc Try.prog W 0 (fun _=>true) true n 3 [c0]=some y0 at h0
  have h1:DataW.trod enc Try.prog W 0 (fun _=>true) true n 22 (([c0,c1,c2,c3,c4,c5,c6,c7,c8].drop 1).take (Try.prog.cellsOf 22))=some y1:=hf 1 _ rfl
  rw [cells_slice_r] at h1
  change DataW.trod enc Try.prog W 0 (fun _=>true) true n 22 [c1]=some y1 at h1
  have h2:DataW.trod enc Try.prog W 0 (fun _=>true) true n 3 (([c0,c1,c2,c3,c4,c5,c6,c7,c8].drop 2).take (Try.prog.cellsOf 3))=some y2:=hf 2 _ rfl
  rw [cells_i] at h2
  change DataW.trod enc Try.prog W 0 (fun _=>true) true n 3 [c2]=some y2 at h2
  have h3:DataW.trod enc Try.prog W 0 (fun _=>true) true n 23 (([c0,c1,c2,c3,c4,c5,c6,c7,c8].drop 3).take (Try.prog.cellsOf 23))=some y3:=hf 3 _ rfl
  rw [cells_nodes] at h3
  change DataW.trod enc Try.prog W 0 (fun _=>true) true n 23 [c3]=some y3 at h3
  have h4:DataW.trod enc Try.prog W 0 (fun _=>true) true n 3 (([c0,c1,c2,c3,c4,c5,c6,c7,c8].drop 4).take (Try.prog.cellsOf 3))=some y4:=hf 4 _ rfl
  rw [cells_i] at h4
  change DataW.trod enc Try.prog W 0 (fun _=>true) true n 3 [c4]=some y4 at h4
  have h5:DataW.trod enc Try.prog W 0 (fun _=>true) true n 3 (([c0,c1,c2,c3,c4,c5,c6,c7,c8].drop 5).take (Try.prog.cellsOf 3))=some y5:=hf 5 _ rfl
  rw [cells_i] at h5
  change DataW.trod enc Try.prog W 0 (fun _=>true) true n 3 [c5]=some y5 at h5
  have h6:DataW.trod enc Try.prog W 0 (fun _=>true) true n 4 (([c0,c1,c2,c3,c4,c5,c6,c7,c8].drop 6).take (Try.prog.cellsOf 4))=some y6:=hf 6 _ rfl
  rw [cells_b] at h6
  change DataW.trod enc Try.prog W 0 (fun _=>true) true n 4 [c6]=some y6 at h6
  have h7:DataW.trod enc Try.prog W 0 (fun _=>true) true n 3 (([c0,c1,c2,c3,c4,c5,c6,c7,c8].drop 7).take (Try.prog.cellsOf 3))=some y7:=hf 7 _ rfl
  rw [cells_i] at h7
  change DataW.trod enc Try.prog W 0 (fun _=>true) true n 3 [c7]=some y7 at h7
  have h8:DataW.trod enc Try.prog W 0 (fun _=>true) true n 9 (([c0,c1,c2,c3,c4,c5,c6,c7,c8].drop 8).take (Try.prog.cellsOf 9))=some y8:=hf 8 _ rfl
  rw [cells_s] at h8
  change DataW.trod enc Try.prog W 0 (fun _=>true) true n 9 [c8]=some y8 at h8
  obtain ⟨k,e0,_,_⟩:=DataW.trod_int Try.underlying3 h0
  obtain ⟨ra,rn,rc,r,e1,hrz,hrr,_,hrb⟩:=open_rng (v:=c1) h1
  obtain ⟨ast,e2,_,_⟩:=DataW.trod_int Try.underlying3 h2
  obtain ⟨mn,e4,_,_⟩:=DataW.trod_int Try.underlying3 h4
  obtain ⟨mx,e5,_,_⟩:=DataW.trod_int Try.underlying3 h5
  obtain ⟨z,e6,_⟩:=DataW.trod_bool Try.underlying4 h6
  obtain ⟨ix,e7,_,_⟩:=DataW.trod_int Try.underlying3 h7
  obtain ⟨nm,e8,hs8,_⟩:=DataW.trod_string Try.underlying9 h8
  simp at e0 e2 e4 e5 e6 e7 e8
  subst e0 e1 e2 e4 e5 e6 e7 e8
  have hrn:rn=r.length:=by have:=hrr.len;rw [flat_length] at this;omega
  subst hrn
  have hb1:=bulk_mem (d:=y1.1) (l:=List.map (·.1) [y0,y1,y2,y3,y4,y5,y6,y7,y8]) (by simp)
  have hb3:=bulk_mem (d:=y3.1) (l:=List.map (·.1) [y0,y1,y2,y3,y4,y5,y6,y7,y8]) (by simp)
  have hb8:=bulk_mem (d:=y8.1) (l:=List.map (·.1) [y0,y1,y2,y3,y4,y5,y6,y7,y8]) (by simp)
  have hbx:Rows.uptoBulkAll (List.map (·.1) [y0,y1,y2,y3,y4,y5,y6,y7,y8])+1≤N+1:=hN
  have hnm:nm.size≤1048576:=by
   have:Rows.uptoBulk y8.1=nm.size+1:=by rw [hs8];simp only [Rows.uptoBulk];rw [Array.length_toList];rfl
   omega
  have hsub:∃ (A:Option Addr) (c:Nat) (l:List Ta),c3=.slice A l.length c∧l.length≤1048576∧RdA W (· < W.heap.size) 9 A l.length c (rowT l)∧∀ u∈l,RT W (· < W.heap.size) u:=by
   rcases Go.Deep.open_slice Try.underlying23 h3 with ⟨hcs,hx⟩ | ⟨a,len,cap,m,n',D,Pl,hcs,hb,hl,hm,hmm,hx,hi⟩
   ·simp only [List.cons.injEq,and_true] at hcs
    subst hcs
    exact ⟨none,0,[],rfl,by simp,RdA.none_,by simp⟩
   ·simp only [List.cons.injEq,and_true] at hcs
    subst hcs
    simp only [if_true] at hmm
    subst hmm
    rw [cells_node] at hi
    have hlb:=length_bulk ((List.range len).map D)
    rw [zzP,List.length_range] at hlb
    have hy3:Rows.uptoBulkAll ((List.range len).map D)+1≤Rows.uptoBulk y3.1:=by rw [hx];simp only [Rows.uptoBulk];omega
    have hbk:∀ i,i < len→Rows.uptoBulk (D i)≤Rows.uptoBulkAll ((List.range len).map D):=fun i hil=>part_bulk (List.mem_map.2 ⟨i,List.mem_range.2 hil,rfl⟩)
    have each:∀ i,i < len→∃ u:Ta,(∀ j,j < 9→W.cell? (a.add (i*9+j))=u.vals[j]?)∧RT W (· < W.heap.size) u:=fun i him=>by
     obtain ⟨cs',g1,g2⟩:=hi i (by omega)
     obtain ⟨u,rfl,g3⟩:=ih _ _ _ g2 (by have:=hbk i him;show Rows.uptoBulk (D i)≤N;omega) (by omega)
     obtain ⟨_,_,h5⟩:=World.cells?_some g1
     refine ⟨u,fun j hj=>?_,g3⟩
     rw [←add_of_add]
     exact h5 j hj
    have each2:∀ i,∃ u:Ta,i < len→(∀ j,j < 9→W.cell? (a.add (i*9+j))=u.vals[j]?)∧RT W (· < W.heap.size) u:=fun i=>by
     by_cases him:i < len
     ·obtain ⟨u,hu⟩:=each i him;exact ⟨u,fun _=>hu⟩
     ·exact ⟨.mk 0 [] none 0 0 [] none 0 0 0 false 0 ⟨#[]⟩,fun h=>absurd h him⟩
    obtain ⟨q,hq⟩:∃ q:Nat→Ta,∀ i,i < len→(∀ j,j < 9→W.cell? (a.add (i*9+j))=(q i).vals[j]?)∧RT W (· < W.heap.size) (q i) :=
     ⟨fun i=>Classical.choose (each2 i),fun i=>Classical.choose_spec (each2 i)⟩
    have hll:((List.range len).map q).length=len:=by simp
    refine ⟨some a,m,(List.range len).map q,by rw [hll],by rw [hll];omega,?_,fun u hu=>?_⟩
    ·rw [hll]
     refine ⟨hl,by unfold maxLen at hm;omega,by rw [rowT_length,hll],(fun h=>by cases h),fun hn=>?_⟩
     have h0:=(hq 0 hn).1 0 (by omega)
     rw [Nat.zero_mul,Nat.add_zero,Addr.add,if_pos rfl] at h0
     have hv:0 < (q 0).vals.length:=by rw [Ta.vals_length];omega
     rw [zzJ hv] at h0
     have ha:=spot_none h0
     have hlt:=World.block_lt_of_cell? W _ h0
     refine ⟨a.block,a.off,by rw [←ha],hlt,fun j u hu=>?_⟩
     have hj:=(zzK.1 hu).1
     rw [rowT_length,hll] at hj
     have hjq:j / 9 < len:=by omega
     have e:j=j / 9*9+j % 9:=by omega
     have hg:=rowT_get ((List.range len).map q) (j / 9) (j % 9) (q (j / 9)) (by simp [hjq]) (by omega)
     rw [←e] at hg
     have hc:=(hq (j / 9) hjq).1 (j % 9) (by omega)
     rw [←e,ha,add_lit,←hg] at hc
     exact hc.trans hu
    ·obtain ⟨i,hi1,rfl⟩:=List.mem_map.1 hu
     exact (hq i (List.mem_range.1 hi1)).2
  obtain ⟨sa,sc,l,rfl,hll,hN2,hL⟩:=hsub
  exact ⟨.mk k r ra rc ast l sa sc mn mx z ix nm,rfl,RT.of ⟨RdA.of_reads hrr hrz,by omega,hll,hnm⟩ hN2 hL⟩
theorem array9 {α:Type} {cs:Array α} (h:cs.size=9):∃ c0 c1 c2 c3 c4 c5 c6 c7 c8,cs=#[c0,c1,c2,c3,c4,c5,c6,c7,c8]:=by
 obtain ⟨l⟩:=cs
 match l,h with
 | [c0,c1,c2,c3,c4,c5,c6,c7,c8],_=>exact ⟨c0,c1,c2,c3,c4,c5,c6,c7,c8,rfl⟩
set_option maxRecDepth 100000 in
theorem open_tree {b0:Nat} {v:Value} {d:DataW H} {p:List MemPlace} (hv:Value.okWide Try.prog W .any b0 25 v) (h:DataW.Trod enc Try.prog W 0 (fun _=>true) true 25 v d p) (hb:Rows.uptoBulk d≤1048576) :
  ∃ t:Ta,v=t.val∧RT W (· < W.heap.size) t:=by
 obtain ⟨cs,rfl,hsz⟩:=okWide_struct Try.underlying25 hv
 obtain ⟨c0,c1,c2,c3,c4,c5,c6,c7,c8,rfl⟩:=array9 (hsz.trans cells_node)
 obtain ⟨fuel,hf⟩:=h
 obtain ⟨t,ht,hr⟩:=open_node 1048576 fuel _ _ hf hb (zzF _)
 refine ⟨t,?_,hr⟩
 have:[c0,c1,c2,c3,c4,c5,c6,c7,c8]=t.vals:=ht
 rw [Ta.val,←this]
end
end Go.Proofs.Ytkhkllpdhnmhkaa
namespace Go.Proofs.Ytkhkllpdhnmhkaa
open Go.ChangeShapes Go.WideShapes Go.ChangeAt Go.RowKit
theorem open_ints_v {H:Type} {enc:TypeId × Value→H} {W:World} {fuel:Nat} {v:Value} {x:DataW H × List MemPlace}
  (h:DataW.trod enc Try.prog W 0 (fun _=>true) true fuel 26 [v]=some x) :
  ∃ (A:Option Addr) (n c:Nat) (l:List Int),v=.slice A n c∧(A=none→c=0)∧Reads W W.heap.size 1 A n c (l.map (Value.int .i64))∧n≤Rows.uptoBulk x.1:=by
 rcases open_ints Try.underlying26 Try.underlying3 cells_i h with ⟨hcs,hx⟩ | ⟨a,len,cap,zs,hcs,_,hl,hm,hz,hx,hcell,hwz⟩
 ·simp only [List.cons.injEq,and_true] at hcs
  subst hcs
  exact ⟨none,0,0,[],rfl,fun _=>rfl,Reads.none_,by omega⟩
 ·simp only [List.cons.injEq,and_true] at hcs
  subst hcs
  simp only [if_true] at hz
  refine ⟨some a,len,cap,zs.take len,rfl,(fun h=>by cases h),⟨hl,by unfold maxLen at hm;omega,by rw [zzP,List.length_take];omega,fun hn=>?_⟩,?_⟩
  ·have h0:=hcell 0 (by omega)
   rw [Addr.add,if_pos rfl] at h0
   have ha:=spot_none h0
   have hlt:=World.block_lt_of_cell? W _ h0
   refine ⟨a.block,a.off,by rw [←ha],hlt,fun j u hu=>?_⟩
   rw [zza,List.getElem?_take] at hu
   split at hu
   ·rename_i hj
    have hc2:=hcell j (by omega)
    rw [ha,add_lit] at hc2
    rw [hc2]
    rw [zzJ (show j < zs.length by omega)] at hu
    simp only [Option.map_some,zzd] at hu
    rw [←hu,List.getD_eq_getElem?_getD,zzJ (show j < zs.length by omega)]
    rfl
   ·simp at hu
  ·subst hx
   have h1:=length_bulk (lits (H:=H) .i64 (zs.take len))
   simp only [Rows.uptoBulk]
   simp only [lits,zzP,List.length_take] at h1
   have:min len zs.length=len:=by omega
   rw [this] at h1
   simp only [lits]
   omega
section
variable {H:Type} {enc:TypeId × Value→H} {W:World}
theorem rda_of {A:Option Addr} {n c:Nat} {t:List Int} (hA:A=none→c=0) (h:Reads W W.heap.size 1 A n c (t.map (Value.int .i64))):RdA W (· < W.heap.size) 1 A n c (t.map (Value.int .i64)):=RdA.of_reads h hA
set_option maxRecDepth 100000 in
theorem open_numbers {b0:Nat} {v:Value} {d:DataW H} {p:List MemPlace} (hv:Value.okWide Try.prog W .any b0 26 v) (h:DataW.Trod enc Try.prog W 0 (fun _=>true) true 26 v d p) :
  ∃ (A:Option Addr) (n c:Nat) (t:List Int),v=.slice A n c∧RdA W (· < W.heap.size) 1 A n c (t.map (Value.int .i64)):=by
 obtain ⟨a0,len,cap,rfl⟩:=okWide_slice Try.underlying26 hv
 obtain ⟨fuel,hf⟩:=h
 have hf2:DataW.trod enc Try.prog W 0 (fun _=>true) true fuel 26 [.slice a0 len cap]=some (d,p):=hf
 obtain ⟨A,n,c,t,e,hA,hr,-⟩:=open_ints_v hf2
 rw [e]
 exact ⟨A,n,c,t,rfl,rda_of hA hr⟩
end
end Go.Proofs.Ytkhkllpdhnmhkaa
