/- BitstateMeans: of every tree, text and place: the run of the tree's program from the place on finds the first parse that the tree has at the least place from there on that has one, or nothing, if there is none, and so do the anchored runs at each place on the way. Condition: what comes in holds at most 1048576 values (the second form). -/
import Derived.Test.YtgkclnmmjedmkaaGreatRows
import Derived.WalkKit
import Derived.ProofKit
import Derived.OpenShut
import Derived.Below
import Derived.ChangeSame
import Derived.JoinedCond
import Derived.ChangeSlices
import Derived.Deep.SlicePairs
import Derived.Deep.Slices
import Derived.Lib.SmallJoins
import Derived.Test.YtgkclnmmjedmkaaGreatP52
set_option maxRecDepth 100000
namespace Go.Proofs.YtgkclnmmjedmkaaGreat
open Go.ChangeShapes Go.WideShapes Go.ChangeAt Go.RowKit
theorem own:ownKnob Tryz.prog.godebug=none:=by kernel_rfl
theorem laidOut:laidOutB Tryz.prog=true:=by kernel_rfl
theorem post_of_below {H:Type} {enc:TypeId × Value→H} {P:Program} {f:Func} {s:ChangeSpec} {apart fresh handsOn:Bool} {W W':World} {args:Array Value} {v:Value} {ds gs:List (DataW H)} {before pa pv:List MemPlace}
  (hW:DataW.Whole enc P f.params.toList s.vars apart W args.toList ds gs before)
  (hres:∀ (b:Nat) (sp:Nat→Bool) (hd:Bool),DataW.TrodAll enc P W' b sp hd f.resultTypes.toList (v.resultList f.resultTypes.size) (s.fn H (ds++gs)).results [])
  (hargs:DataW.TrodAll enc P W' 0 (fun b=>decide (b < W.heap.size)) true f.params.toList args.toList (s.fn H (ds++gs)).args pa)
  (hvars:DataW.TrodVars enc P W' (fun b=>decide (b < W.heap.size)) s.vars (s.fn H (ds++gs)).vars pv)
  (hps:before=pa++pv) (hb:Below W.heap.size W W'):s.post enc P f apart fresh handsOn false W args v W':=by
 refine ⟨ds,gs,before,[],pa,pv,hW,hres _ _ _,hargs,hvars,World.keptBut_mono (fun p hp=>⟨hp,?_⟩) (hb.frame (·∈before)),fun h=>by cases h⟩
 rw [hps,zzM] at hp
 exact Or.inr hp
theorem one_le_bulk {H:Type} (d:DataW H):1≤Rows.uptoBulk d:=by
 cases d with
 | lit l=>cases l <;> simp [Rows.uptoBulk]
 | nil=>simp [Rows.uptoBulk]
 | ptr d=>simp [Rows.uptoBulk]
 | slice elems spare=>simp [Rows.uptoBulk]
 | agg parts=>simp [Rows.uptoBulk]
 | iface t d=>simp [Rows.uptoBulk]
 | map entries=>simp [Rows.uptoBulk]
 | held h=>simp [Rows.uptoBulk]
theorem part_bulk {H:Type} {d:DataW H} {l:List (DataW H)} (h:d∈l):Rows.uptoBulk d≤Rows.uptoBulkAll l:=by
 induction l with
 | nil=>cases h
 | cons x r ih =>
  simp only [Rows.uptoBulkAll]
  cases zzN.1 h with
  | inl e=>subst e;omega
  | inr e=>have:=ih e;omega
theorem length_bulk {H:Type} (l:List (DataW H)):l.length≤Rows.uptoBulkAll l:=by
 induction l with
 | nil=>simp [Rows.uptoBulkAll]
 | cons x r ih=>have:=one_le_bulk x;simp only [Rows.uptoBulkAll,zzO];omega
theorem small {H:Type} {l:List (DataW H)} (hk:Rows.uptoSmall H l=true):Rows.uptoBulkAll l≤1048576:=of_decide_eq_true hk
theorem spot_none {w:World} {a:Addr} {u:Value} (h:w.cell? a=some u):a=⟨a.block,a.off,none⟩:=by
 unfold World.cell? at h
 split at h
 ·split at h
  ·cases h
  ·rename_i hs
   cases a
   simp_all
 ·cases h
theorem cells_slice_r:Tryz.prog.cellsOf 22=1:=by kernel_rfl
theorem cells_rng:Tryz.prog.cellsOf 91=2:=by kernel_rfl
theorem cells_i:Tryz.prog.cellsOf 3=1:=by kernel_rfl
theorem flat_at {l:List (Int × Int)} {j:Nat} {u:Value} (h:(flat l)[j]?=some u):∃ q x,l[q]?=some x∧((j=q*2∧u=.int .i64 x.1)∨(j=q*2+1∧u=.int .i64 x.2)):=by
 have hj:=(zzK.1 h).1
 rw [flat_length] at hj
 have hx:l[j / 2]?=some l[j / 2]:=zzJ (by omega)
 have hg:=flat_get l _ _ hx
 refine ⟨j / 2,_,hx,?_⟩
 rcases (show j=j / 2*2∨j=j / 2*2+1 from by omega) with e | e
 ·refine .inl ⟨e,?_⟩
  rw [e,hg.1] at h
  exact (Option.some.inj h).symm
 ·refine .inr ⟨e,?_⟩
  rw [e,hg.2] at h
  exact (Option.some.inj h).symm
theorem bulk_mem {H:Type} {d:DataW H} {l:List (DataW H)} (h:d∈l):1≤Rows.uptoBulk d∧Rows.uptoBulk d≤Rows.uptoBulkAll l:=⟨one_le_bulk d,part_bulk h⟩
theorem open_rng {H:Type} {enc:TypeId × Value→H} {W:World} {fuel:Nat} {v:Value} {x:DataW H × List MemPlace}
  (h:DataW.trod enc Tryz.prog W 0 (fun _=>true) true fuel 22 [v]=some x) :
  ∃ (A:Option Addr) (n c:Nat) (l:List (Int × Int)),v=.slice A n c∧(A=none→c=0)∧Reads W W.heap.size 2 A n c (flat l)∧(∀ y∈l,(Lit.int .i64 y.1).wf=true∧(Lit.int .i64 y.2).wf=true)∧n≤Rows.uptoBulk x.1:=by
 rcases Go.Deep.open_slice_pairs Tryz.underlying22 Tryz.underlying91 cells_rng rfl rfl cells_i cells_i h with ⟨hcs,hx⟩ | ⟨a,len,cap,m,n,V0,V1,D0,D1,P0,P1,hcs,hb,hl,hm,hmm,hx,hi⟩
 ·simp only [List.cons.injEq,and_true] at hcs
  subst hcs
  exact ⟨none,0,0,[],rfl,fun _=>rfl,Reads.none_,by simp,by omega⟩
 ·simp only [List.cons.injEq,and_true] at hcs
  subst hcs
  simp only [if_true] at hmm
  subst hmm
  have each:∀ i,∃ q:Int × Int,i < m→W.cell? (a.add (i*2))=some (.int .i64 q.1)∧W.cell? (a.add (i*2+1))=some (.int .i64 q.2)∧(Lit.int .i64 q.1).wf=true∧(Lit.int .i64 q.2).wf=true:=by
   intro i
   by_cases him:i < m
   ·obtain ⟨h0,h1,h2,h3⟩:=hi i him
    obtain ⟨n0,e0,_,w0⟩:=DataW.trod_int Tryz.underlying3 h2
    obtain ⟨n1,e1,_,w1⟩:=DataW.trod_int Tryz.underlying3 h3
    simp only [List.cons.injEq,and_true] at e0 e1
    exact ⟨(n0,n1),fun _=>⟨by rw [h0,e0],by rw [h1,e1],w0,w1⟩⟩
   ·exact ⟨(0,0),fun h=>absurd h him⟩
  obtain ⟨q,hq⟩:∃ q:Nat→Int × Int,∀ i,i < m→W.cell? (a.add (i*2))=some (.int .i64 (q i).1)∧W.cell? (a.add (i*2+1))=some (.int .i64 (q i).2)∧(Lit.int .i64 (q i).1).wf=true∧(Lit.int .i64 (q i).2).wf=true :=
   ⟨fun i=>Classical.choose (each i),fun i=>Classical.choose_spec (each i)⟩
  have hll:((List.range len).map q).length=len:=by simp
  refine ⟨some a,len,m,(List.range len).map q,rfl,(fun h=>by cases h),⟨hl,by unfold maxLen at hm;omega,by rw [flat_length,hll],fun hn=>?_⟩,fun y hy=>?_,?_⟩
  ·have h0:=(hq 0 (by omega)).1
   rw [Nat.zero_mul,Addr.add,if_pos rfl] at h0
   have ha:=spot_none h0
   have hlt:=zze W _ h0
   refine ⟨a.block,a.off,by rw [←ha],hlt,fun j u hu=>?_⟩
   obtain ⟨i,x,hx1,hor⟩:=flat_at hu
   have hil:i < len:=by have:=(zzK.1 hx1).1;rw [hll] at this;exact this
   obtain rfl:q i=x:=by simpa [hil] using hx1
   have hqi:=hq i (by omega)
   rcases hor with ⟨rfl,rfl⟩ | ⟨rfl,rfl⟩
   ·have:=hqi.1
    rwa [ha,add_lit] at this
   ·have:=hqi.2.1
    rwa [ha,add_lit] at this
  ·obtain ⟨i,hi1,rfl⟩:=zzp.1 hy
   have:=hq i (by have:=List.mem_range.1 hi1;omega)
   exact ⟨this.2.2.1,this.2.2.2⟩
  ·rw [hx]
   have h1:=length_bulk ((List.range len).map fun i=>DataW.agg (H:=H) [D0 i,D1 i])
   rw [zzP,List.length_range] at h1
   simp only [Rows.uptoBulk]
   omega
theorem cells_node:Tryz.prog.cellsOf 25=9:=by kernel_rfl
theorem cells_nodes:Tryz.prog.cellsOf 23=1:=by kernel_rfl
theorem cells_b:Tryz.prog.cellsOf 4=1:=by kernel_rfl
theorem cells_s:Tryz.prog.cellsOf 9=1:=by kernel_rfl
theorem list9 {α:Type} {cs:List α} (h:cs.length=9):∃ c0 c1 c2 c3 c4 c5 c6 c7 c8,cs=[c0,c1,c2,c3,c4,c5,c6,c7,c8]:=by
 match cs,h with
 | [c0,c1,c2,c3,c4,c5,c6,c7,c8],_=>exact ⟨c0,c1,c2,c3,c4,c5,c6,c7,c8,rfl⟩
section
variable {H:Type} {enc:TypeId × Value→H} {W:World}
theorem open_node:∀ (N:Nat) (fuel:Nat) (cs:List Value) (x:DataW H × List MemPlace),DataW.trod enc Tryz.prog W 0 (fun _=>true) true fuel 25 cs=some x→Rows.uptoBulk x.1≤N→N≤1048576 →
  ∃ t:Ta,cs=t.vals∧RT W (· < W.heap.size) t:=by
 intro N
 induction N with
 | zero =>
  intro fuel cs x _ hN _
  have:=one_le_bulk x.1
  omega
 | succ N ih =>
  intro fuel cs x h hN hM
  obtain ⟨xs,n,_,rfl,hl9,hlen,hf⟩:=DataW.trod_struct Tryz.underlying25 h
  rw [cells_node] at hl9
  obtain ⟨c0,c1,c2,c3,c4,c5,c6,c7,c8,rfl⟩:=list9 hl9
  obtain ⟨y0,y1,y2,y3,y4,y5,y6,y7,y8,rfl⟩:=list9 (cs:=xs) hlen
  have h0:DataW.trod enc Tryz.prog W 0 (fun _=>true) true n 3 (([c0,c1,c2,c3,c4,c5,c6,c7,c8].drop 0).take (Tryz.prog.cellsOf 3))=some y0:=hf 0 _ rfl
  rw [cells_i] at h0
  change DataW.trod enc Tryz.prog W 0 (fun _=>true) true n 3 [c0]=some y0 at h0
  have h1:DataW.trod enc Tryz.prog W 0 (fun _=>true) true n 22 (([c0,c1,c2,c3,c4,c5,c6,c7,c8].drop 1).take (Tryz.prog.cellsOf 22))=some y1:=hf 1 _ rfl
  rw [cells_slice_r] at h1
  change DataW.trod enc Tryz.prog W 0 (fun _=>true) true n 22 [c1]=some y1 at h1
  have h2:DataW.trod enc Tryz.prog W 0 (fun _=>true) true n 3 (([c0,c1,c2,c3,c4,c5,c6,c7,c8].drop 2).take (Tryz.prog.cellsOf 3))=some y2:=hf 2 _ rfl
  rw [cells_i] at h2
  change DataW.trod enc Tryz.prog W 0 (fun _=>true) true n 3 [c2]=some y2 at h2
  have h3:DataW.trod enc Tryz.prog W 0 (fun _=>true) true n 23 (([c0,c1,c2,c3,c4,c5,c6,c7,c8].drop 3).take (Tryz.prog.cellsOf 23))=some y3:=hf 3 _ rfl
  rw [cells_nodes] at h3
  change DataW.trod enc Tryz.prog W 0 (fun _=>true) true n 23 [c3]=some y3 at h3
  have h4:DataW.trod enc Tryz.prog W 0 (fun _=>true) true n 3 (([c0,c1,c2,c3,c4,c5,c6,c7,c8].drop 4).take (Tryz.prog.cellsOf 3))=some y4:=hf 4 _ rfl
  rw [cells_i] at h4
  change DataW.trod enc Tryz.prog W 0 (fun _=>true) true n 3 [c4]=some y4 at h4
  have h5:DataW.trod enc Tryz.prog W 0 (fun _=>true) true n 3 (([c0,c1,c2,c3,c4,c5,c6,c7,c8].drop 5).take (Tryz.prog.cellsOf 3))=some y5:=hf 5 _ rfl
  rw [cells_i] at h5
  change DataW.trod enc Tryz.prog W 0 (fun _=>true) true n 3 [c5]=some y5 at h5
  have h6:DataW.trod enc Tryz.prog W 0 (fun _=>true) true n 4 (([c0,c1,c2,c3,c4,c5,c6,c7,c8].drop 6).take (Tryz.prog.cellsOf 4))=some y6:=hf 6 _ rfl
  rw [cells_b] at h6
  change DataW.trod enc Tryz.prog W 0 (fun _=>true) true n 4 [c6]=some y6 at h6
  have h7:DataW.trod enc Tryz.prog W 0 (fun _=>true) true n 3 (([c0,c1,c2,c3,c4,c5,c6,c7,c8].drop 7).take (Tryz.prog.cellsOf 3))=some y7:=hf 7 _ rfl
  rw [cells_i] at h7
  change DataW.trod enc Tryz.prog W 0 (fun _=>true) true n 3 [c7]=some y7 at h7
  have h8:DataW.trod enc Tryz.prog W 0 (fun _=>true) true n 9 (([c0,c1,c2,c3,c4,c5,c6,c7,c8].drop 8).take (Tryz.prog.cellsOf 9))=some y8:=hf 8 _ rfl
  rw [cells_s] at h8
  change DataW.trod enc Tryz.prog W 0 (fun _=>true) true n 9 [c8]=some y8 at h8
  obtain ⟨k,e0,_,_⟩:=DataW.trod_int Tryz.underlying3 h0
  obtain ⟨ra,rn,rc,r,e1,hrz,hrr,_,hrb⟩:=open_rng (v:=c1) h1
  obtain ⟨ast,e2,_,_⟩:=DataW.trod_int Tryz.underlying3 h2
  obtain ⟨mn,e4,_,_⟩:=DataW.trod_int Tryz.underlying3 h4
  obtain ⟨mx,e5,_,_⟩:=DataW.trod_int Tryz.underlying3 h5
  obtain ⟨z,e6,_⟩:=DataW.trod_bool Tryz.underlying4 h6
  obtain ⟨ix,e7,_,_⟩:=DataW.trod_int Tryz.underlying3 h7
  obtain ⟨nm,e8,hs8,_⟩:=DataW.trod_string Tryz.underlying9 h8
  simp at e0 e2 e4 e5 e6 e7 e8
  subst e0 e1 e2 e4 e5 e6 e7 e8
  have hrn:rn=r.length:=by have:=hrr.len;rw [flat_length] at this;omega
  subst hrn
  have hb1:=bulk_mem (d:=y1.1) (l:=List.map (·.1) [y0,y1,y2,y3,y4,y5,y6,y7,y8]) (by simp)
  have hb3:=bulk_mem (d:=y3.1) (l:=List.map (·.1) [y0,y1,y2,y3,y4,y5,y6,y7,y8]) (by simp)
  have hb8:=bulk_mem (d:=y8.1) (l:=List.map (·.1) [y0,y1,y2,y3,y4,y5,y6,y7,y8]) (by simp)
  have hbx:Rows.uptoBulkAll (List.map (·.1) [y0,y1,y2,y3,y4,y5,y6,y7,y8])+1≤N+1:=hN
  have hnm:nm.size≤1048576:=by
   have:Rows.uptoBulk y8.1=nm.size+1:=by rw [hs8];simp only [Rows.uptoBulk];rw [Array.length_toList];rfl
   omega
  have hsub:∃ (A:Option Addr) (c:Nat) (l:List Ta),c3=.slice A l.length c∧l.length≤1048576∧RdA W (· < W.heap.size) 9 A l.length c (rowT l)∧∀ u∈l,RT W (· < W.heap.size) u:=by
   rcases Go.Deep.open_slice Tryz.underlying23 h3 with ⟨hcs,hx⟩ | ⟨a,len,cap,m,n',D,Pl,hcs,hb,hl,hm,hmm,hx,hi⟩
   ·simp only [List.cons.injEq,and_true] at hcs
    subst hcs
    exact ⟨none,0,[],rfl,by simp,RdA.none_,by simp⟩
   ·simp only [List.cons.injEq,and_true] at hcs
    subst hcs
    simp only [if_true] at hmm
    subst hmm
    rw [cells_node] at hi
    have hlb:=length_bulk ((List.range len).map D)
    rw [zzP,List.length_range] at hlb
    have hy3:Rows.uptoBulkAll ((List.range len).map D)+1≤Rows.uptoBulk y3.1:=by rw [hx];simp only [Rows.uptoBulk];omega
    have hbk:∀ i,i < len→Rows.uptoBulk (D i)≤Rows.uptoBulkAll ((List.range len).map D):=fun i hil=>part_bulk (zzp.2 ⟨i,List.mem_range.2 hil,rfl⟩)
    have each:∀ i,i < len→∃ u:Ta,(∀ j,j < 9→W.cell? (a.add (i*9+j))=u.vals[j]?)∧RT W (· < W.heap.size) u:=fun i him=>by
     obtain ⟨cs',g1,g2⟩:=hi i (by omega)
     obtain ⟨u,rfl,g3⟩:=ih _ _ _ g2 (by have:=hbk i him;show Rows.uptoBulk (D i)≤N;omega) (by omega)
     obtain ⟨_,_,h5⟩:=World.cells?_some g1
     refine ⟨u,fun j hj=>?_,g3⟩
     rw [←add_of_add]
     exact h5 j hj
    have each2:∀ i,∃ u:Ta,i < len→(∀ j,j < 9→W.cell? (a.add (i*9+j))=u.vals[j]?)∧RT W (· < W.heap.size) u:=fun i=>by
     by_cases him:i < len
     ·obtain ⟨u,hu⟩:=each i him;exact ⟨u,fun _=>hu⟩
     ·exact ⟨.mk 0 [] none 0 0 [] none 0 0 0 false 0 ⟨#[]⟩,fun h=>absurd h him⟩
    obtain ⟨q,hq⟩:∃ q:Nat→Ta,∀ i,i < len→(∀ j,j < 9→W.cell? (a.add (i*9+j))=(q i).vals[j]?)∧RT W (· < W.heap.size) (q i) :=
     ⟨fun i=>Classical.choose (each2 i),fun i=>Classical.choose_spec (each2 i)⟩
    have hll:((List.range len).map q).length=len:=by simp
    refine ⟨some a,m,(List.range len).map q,by rw [hll],by rw [hll];omega,?_,fun u hu=>?_⟩
    ·rw [hll]
     refine ⟨hl,by unfold maxLen at hm;omega,by rw [rowT_length,hll],(fun h=>by cases h),fun hn=>?_⟩
     have h0:=(hq 0 hn).1 0 (by omega)
     rw [Nat.zero_mul,Nat.add_zero,Addr.add,if_pos rfl] at h0
     have hv:0 < (q 0).vals.length:=by rw [Ta.vals_length];omega
     rw [zzJ hv] at h0
     have ha:=spot_none h0
     have hlt:=zze W _ h0
     refine ⟨a.block,a.off,by rw [←ha],hlt,fun j u hu=>?_⟩
     have hj:=(zzK.1 hu).1
     rw [rowT_length,hll] at hj
     have hjq:j / 9 < len:=by omega
     have e:j=j / 9*9+j % 9:=by omega
     have hg:=rowT_get ((List.range len).map q) (j / 9) (j % 9) (q (j / 9)) (by simp [hjq]) (by omega)
     rw [←e] at hg
     have hc:=(hq (j / 9) hjq).1 (j % 9) (by omega)
     rw [←e,ha,add_lit,←hg] at hc
     exact hc.trans hu
    ·obtain ⟨i,hi1,rfl⟩:=zzp.1 hu
     exact (hq i (List.mem_range.1 hi1)).2
  obtain ⟨sa,sc,l,rfl,hll,hN2,hL⟩:=hsub
  exact ⟨.mk k r ra rc ast l sa sc mn mx z ix nm,rfl,RT.of ⟨RdA.of_reads hrr hrz,by omega,hll,hnm⟩ hN2 hL⟩
theorem array9 {α:Type} {cs:Array α} (h:cs.size=9):∃ c0 c1 c2 c3 c4 c5 c6 c7 c8,cs=#[c0,c1,c2,c3,c4,c5,c6,c7,c8]:=by
 obtain ⟨l⟩:=cs
 match l,h with
 | [c0,c1,c2,c3,c4,c5,c6,c7,c8],_=>exact ⟨c0,c1,c2,c3,c4,c5,c6,c7,c8,rfl⟩
theorem open_tree {b0:Nat} {v:Value} {d:DataW H} {p:List MemPlace} (hv:Value.okWide Tryz.prog W .any b0 25 v) (h:DataW.Trod enc Tryz.prog W 0 (fun _=>true) true 25 v d p) (hb:Rows.uptoBulk d≤1048576) :
  ∃ t:Ta,v=t.val∧RT W (· < W.heap.size) t:=by
 obtain ⟨cs,rfl,hsz⟩:=okWide_struct Tryz.underlying25 hv
 obtain ⟨c0,c1,c2,c3,c4,c5,c6,c7,c8,rfl⟩:=array9 (hsz.trans cells_node)
 obtain ⟨fuel,hf⟩:=h
 obtain ⟨t,ht,hr⟩:=open_node 1048576 fuel _ _ hf hb (zzF _)
 refine ⟨t,?_,hr⟩
 have:[c0,c1,c2,c3,c4,c5,c6,c7,c8]=t.vals:=ht
 rw [Ta.val,←this]
end
theorem open_ints_v {H:Type} {enc:TypeId × Value→H} {W:World} {fuel:Nat} {v:Value} {x:DataW H × List MemPlace}
  (h:DataW.trod enc Tryz.prog W 0 (fun _=>true) true fuel 26 [v]=some x) :
  ∃ (A:Option Addr) (n c:Nat) (l:List Int),v=.slice A n c∧(A=none→c=0)∧Reads W W.heap.size 1 A n c (l.map (Value.int .i64))∧n≤Rows.uptoBulk x.1:=by
 rcases open_ints Tryz.underlying26 Tryz.underlying3 cells_i h with ⟨hcs,hx⟩ | ⟨a,len,cap,zs,hcs,_,hl,hm,hz,hx,hcell,hwz⟩
 ·simp only [List.cons.injEq,and_true] at hcs
  subst hcs
  exact ⟨none,0,0,[],rfl,fun _=>rfl,Reads.none_,by omega⟩
 ·simp only [List.cons.injEq,and_true] at hcs
  subst hcs
  simp only [if_true] at hz
  refine ⟨some a,len,cap,zs.take len,rfl,(fun h=>by cases h),⟨hl,by unfold maxLen at hm;omega,by rw [zzP,List.length_take];omega,fun hn=>?_⟩,?_⟩
  ·have h0:=hcell 0 (by omega)
   rw [Addr.add,if_pos rfl] at h0
   have ha:=spot_none h0
   have hlt:=zze W _ h0
   refine ⟨a.block,a.off,by rw [←ha],hlt,fun j u hu=>?_⟩
   rw [zza,List.getElem?_take] at hu
   split at hu
   ·rename_i hj
    have hc2:=hcell j (by omega)
    rw [ha,add_lit] at hc2
    rw [hc2]
    rw [zzJ (show j < zs.length by omega)] at hu
    simp only [Option.map_some,zzd] at hu
    rw [←hu,zzf,zzJ (show j < zs.length by omega)]
    rfl
   ·simp at hu
  ·subst hx
   have h1:=length_bulk (lits (H:=H) .i64 (zs.take len))
   simp only [Rows.uptoBulk]
   simp only [lits,zzP,List.length_take] at h1
   have:min len zs.length=len:=by omega
   rw [this] at h1
   simp only [lits]
   omega
section
variable {H:Type} {enc:TypeId × Value→H} {W:World}
theorem rda_of {A:Option Addr} {n c:Nat} {t:List Int} (hA:A=none→c=0) (h:Reads W W.heap.size 1 A n c (t.map (Value.int .i64))):RdA W (· < W.heap.size) 1 A n c (t.map (Value.int .i64)):=RdA.of_reads h hA
theorem open_numbers {b0:Nat} {v:Value} {d:DataW H} {p:List MemPlace} (hv:Value.okWide Tryz.prog W .any b0 26 v) (h:DataW.Trod enc Tryz.prog W 0 (fun _=>true) true 26 v d p) :
  ∃ (A:Option Addr) (n c:Nat) (t:List Int),v=.slice A n c∧RdA W (· < W.heap.size) 1 A n c (t.map (Value.int .i64)):=by
 obtain ⟨a0,len,cap,rfl⟩:=okWide_slice Tryz.underlying26 hv
 obtain ⟨fuel,hf⟩:=h
 have hf2:DataW.trod enc Tryz.prog W 0 (fun _=>true) true fuel 26 [.slice a0 len cap]=some (d,p):=hf
 obtain ⟨A,n,c,t,e,hA,hr,-⟩:=open_ints_v hf2
 rw [e]
 exact ⟨A,n,c,t,rfl,rda_of hA hr⟩
end
end Go.Proofs.YtgkclnmmjedmkaaGreat
namespace Go.Proofs.YtgkclnmmjedmkaaGreat.bitstateMeans
open Go.ChangeShapes Go.WideShapes Go.ChangeAt Go.RowKit
theorem contract (H:Type) (enc:TypeId × Value→H) (W:World) (base:Nat) (args:Array Value) (ds gs:List (DataW H)) (before:List MemPlace)
  (hval:∀ (j:Nat) t v,Tryz.f3.params[j]?=some t→args[j]?=some v→Value.okWide Tryz.prog W .any base t v)
  (hW:DataW.Whole enc Tryz.prog Tryz.f3.params.toList Rows.bitstateMeansSpec.vars false W args.toList ds gs before) (hk:Rows.uptoSmall H (ds++gs)=true) :
  Calls Tryz.prog 3 args W fun e W'=>∃ v,e=.returned v∧Rows.bitstateMeansSpec.post enc Tryz.prog Tryz.f3 false true false false W args v W':=by
 have hW':=hW
 obtain ⟨p,q,hA0,hV,rfl,hfz,hnd⟩:=hW
 have hA:DataW.TrodAll enc Tryz.prog W 0 (fun _=>true) true Tryz.f3.params.toList args.toList ds p:=hA0
 rw [Tryz.params3] at hA hval
 obtain ⟨v0,v1,v2,d0,d1,d2,p0,p1,p2,rfl,rfl,rfl,h0,h1,h2⟩:=trodAll_three hA
 obtain ⟨rfl,rfl⟩:=trodVars_none hV
 clear hA0
 simp only [zzY] at hW' hk
 have hs:=small hk
 have hb0:=part_bulk (d:=d0) (l:=[d0,d1,d2]) (by simp)
 obtain ⟨u,rfl,hu⟩:=open_tree (hval 0 25 v0 rfl rfl) h0 (by omega)
 obtain ⟨At,n,c,t,rfl,ht⟩:=open_numbers (hval 1 26 v1 rfl rfl) h1
 obtain ⟨at_,rfl⟩:=okWide_int Tryz.underlying3 (hval 2 3 v2 rfl rfl)
 have hlt0:∀ x∈p0,x.block < W.heap.size:=fun x hx=>hW'.lt x (by simp [hx])
 have hlt1:∀ x∈p1,x.block < W.heap.size:=fun x hx=>hW'.lt x (by simp [hx])
 have hlt2:∀ x∈p2,x.block < W.heap.size:=fun x hx=>hW'.lt x (by simp [hx])
 cases u with
 | mk k r ra rc ast l sa sc mn mx z ix nm =>
 refine (bm_law k r ra rc ast l sa sc mn mx z ix nm At n c t at_ W hu ht).mono fun e W' ⟨he,hb⟩=>?_
 subst he
 exact ⟨_,rfl,post_of_below (pa:=p0++(p1++p2)) (pv:=[]) hW' (fun _ _ _=>trodAll_cons_mk (shut_bool Tryz.underlying4 _) trodAll_mk0)
  (trodAll_mk3 (Below.trod laidOut (by kernel_rfl) (of_decide_eq_true (by kernel_rfl)) h0 hb hlt0) (Below.trod laidOut (by kernel_rfl) (of_decide_eq_true (by kernel_rfl)) h1 hb hlt1) (Below.trod laidOut (by kernel_rfl) (of_decide_eq_true (by kernel_rfl)) h2 hb hlt2)) rfl (by simp) hb⟩
theorem lifted (os:Os) (started:os.Started) (H:Type) (enc:TypeId × Value→H) (F:Stop.Interp) :
  ReturnsInHanded {} Tryz.checked os 3 .any ((Rows.OpenSpec.upto Rows.bitstateMeansSpec).pre6 enc Tryz.prog Tryz.f3 Rows.bitstateMeansUptoRow.domain false) (((Rows.OpenSpec.upto Rows.bitstateMeansSpec).at F).post enc Tryz.prog Tryz.f3 false true false false):=by
 refine returnsInHanded_of_cond (C:=Tryz.checked) (s:=Rows.OpenSpec.upto Rows.bitstateMeansSpec) (k:=Rows.uptoSmall) rfl own started (by kernel_rfl) Tryz.func3
  (OpenSpec.witness (enc:=enc) (C:=Tryz.checked) (s:=Rows.OpenSpec.upto Rows.bitstateMeansSpec) (k:=Rows.uptoSmall) rfl false ⟨#[],#[.agg #[.int .i64 0,.slice none 0 0,.int .i64 0,.slice none 0 0,.int .i64 0,.int .i64 0,.bool false,.int .i64 0,.string ⟨#[]⟩],.slice none 0 0,.int .i64 0],[]⟩ 8 (by kernel_rfl) (by kernel_rfl) (by kernel_rfl)
   (x:=([.agg [.lit (.int .i64 0),.nil,.lit (.int .i64 0),.nil,.lit (.int .i64 0),.lit (.int .i64 0),.lit (.bool false),.lit (.int .i64 0),.lit (.string [])],.nil,.lit (.int .i64 0)],[],[])) (by kernel_rfl) rfl (by kernel_rfl)) ?_
 intro W base args ds gs before hval hW _ hk _
 exact contract H enc W base args ds gs before hval hW hk
theorem over:Rows.bitstateMeansUptoRow.holds Tryz.pinned (Rows.OpenSpec.upto Rows.bitstateMeansSpec) :=
 OpenClaim.holds_of_cond 3 Tryz.f3 rfl rfl rfl rfl rfl rfl rfl ⟨rfl,rfl,rfl,rfl,rfl⟩ rfl rfl rfl rfl rfl (by kernel_rfl) Tryz.func3 (by kernel_rfl)
  (of_decide_eq_true (by kernel_rfl)) (by unfold Func.isWrapper;first | (rw [if_pos (by decide +kernel)];kernel_rfl) | (rw [if_neg (by decide +kernel)];exact ⟨rfl,rfl⟩))
  (fun os started H enc _ F=>lifted os started H enc F)
theorem proved:Rows.BitstateMeansUptoSaid :=
 over
#print axioms proved
end Go.Proofs.YtgkclnmmjedmkaaGreat.bitstateMeans
