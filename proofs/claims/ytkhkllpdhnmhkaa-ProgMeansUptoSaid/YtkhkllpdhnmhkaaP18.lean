/- heronref06's walker in memory: words. -/
import Derived.Deep.AppendLies
import Derived.Test.YtkhkllpdhnmhkaaP02
import Derived.Test.YtkhkllpdhnmhkaaP17
namespace Go.Proofs.Ytkhkllpdhnmhkaa
open Go.RowKit
structure Wr where
 base:Nat
 wb:Nat
 eb:Nat
 tb:Nat
 LA:Option Addr
 lc:Nat
 L:List NdV
 BA:Option Addr
 DA:Option Addr
 bc:Nat
 dc:Nat
 gb:List Nat
 gd:List Nat
 At:Option Addr
 nt:Nat
 ct:Nat
 t:List Int
 at_:Nat
 NL:Nat
 root:Mean.Un
def outB6 (wb:Nat) (w:World):Option Nat:=(w.cell? ⟨wb,6,none⟩).bind Value.ownBlock
def Wr.fixB (G:Wr):List Nat:=G.wb :: G.eb :: (G.gb++G.gd)
def Wr.mut (G:Wr) (w:World):List Nat:=G.fixB++(outB6 G.wb w).toList
def Wr.still (G:Wr) (w:World) (b:Nat):Prop:=b < w.heap.size∧b ∉ G.mut w
structure Wr.fr (G:Wr) (w w':World):Prop where
 kept:Kept w w' (G.mut w)
 out:∀ b,outB6 G.wb w'=some b→outB6 G.wb w=some b∨w.heap.size≤b
 fix:G.wb < w.heap.size
section
variable {G:Wr} {w w' w'':World} {b:Nat}
theorem mem_mut6:b∈G.mut w ↔ b∈G.fixB∨outB6 G.wb w=some b:=by
 unfold Wr.mut
 simp only [zzM,Option.mem_toList,Option.mem_def]
theorem Wr.still.fr (h:G.still w b) (f:G.fr w w'):G.still w' b:=by
 refine ⟨zzQ h.1 f.kept.size,fun hm=>h.2 (mem_mut6.2 ?_)⟩
 rcases mem_mut6.1 hm with e | e
 ·exact .inl e
 ·rcases f.out b e with e | e
  ·exact .inr e
  ·exact absurd h.1 (by omega)
theorem Wr.still.heap (h:G.still w b) (f:G.fr w w'):w'.heap[b]?=w.heap[b]?:=f.kept.block b h.1 h.2
theorem Wr.still.cell (h:G.still w b) (f:G.fr w w') (o:Nat):w'.cell? ⟨b,o,none⟩=w.cell? ⟨b,o,none⟩:=World.cell?_of_block (a:=⟨b,o,none⟩) (h.heap f)
theorem Wr.fr.trans (f:G.fr w w') (g:G.fr w' w''):G.fr w w'':=by
 refine ⟨(f.kept.trans g.kept).more fun k hk=>?_,fun b hb=>?_,f.fix⟩
 ·rcases zzM.1 hk with hk | hk
  ·exact .inl hk
  ·rcases mem_mut6.1 hk with e | e
   ·exact .inl (mem_mut6.2 (.inl e))
   ·rcases f.out k e with e | e
    ·exact .inl (mem_mut6.2 (.inr e))
    ·exact .inr e
 ·rcases g.out b hb with e | e
  ·exact f.out b e
  ·exact .inr (zzU f.kept.size e)
theorem Wr.fr.of_below (h:Below w.heap.size w w') (hm:G.wb < w.heap.size):G.fr w w' :=
 ⟨Kept.of_below h,fun b hb=>.inl (by unfold outB6 at hb ⊢;rwa [h.cell (p:=⟨G.wb,6,none⟩) hm] at hb),hm⟩
theorem RdA.fr6 {size n c:Nat} {A:Option Addr} {xs:List Value} (h:RdA w (G.still w) size A n c xs) (f:G.fr w w'):RdA w' (G.still w') size A n c xs :=
 (h.go fun _ hb=>hb.heap f).mono fun _ hb=>hb.fr f
theorem Blk.still6 {b:Nat} {t:TypeId} {cs:List Value} (h:Blk w b t cs) (hs:G.still w b) (f:G.fr w w'):Blk w' b t cs:=(hs.heap f).trans h
end
def slB (n g:Nat):Value:=.slice (some ⟨g,0,none⟩) n n
def rowM (s:Mean.St) (nt i:Nat) (b:Bool):List Value:=(List.range (nt+1)).map fun p=>.bool (decide (s.met (i,p,b)≠0))
def rowE (s:Mean.St) (nt:Nat):List Value:=(List.range (nt+1)).map fun p=>.bool (s.out.any fun q=>q.1==p)
theorem rowM_get {s:Mean.St} {nt i p:Nat} {b:Bool} (h:p≤nt):(rowM s nt i b)[p]?=some (.bool (decide (s.met (i,p,b)≠0))):=by
 unfold rowM;rw [zza,List.getElem?_range (by omega)];rfl
theorem rowE_get {s:Mean.St} {nt p:Nat} (h:p≤nt):(rowE s nt)[p]?=some (.bool (s.out.any fun q=>q.1==p)):=by
 unfold rowE;rw [zza,List.getElem?_range (by omega)];rfl
theorem rowM_none {s:Mean.St} {nt i p:Nat} {b:Bool} (h:¬p≤nt):(rowM s nt i b)[p]?=none:=by
 unfold rowM;rw [zza,List.getElem?_eq_none (by rw [List.length_range];omega)];rfl
theorem rowM_mark {s:Mean.St} {nt i p:Nat} {b:Bool}:rowM (s.mark (i,p,b)) nt i b=(rowM s nt i b).set p (.bool true):=by
 refine List.ext_getElem? fun j=>?_
 by_cases hj:j≤nt
 ·rw [rowM_get hj,List.getElem?_set]
  by_cases e:p=j
  ·subst e
   rw [if_pos rfl,if_pos (by unfold rowM;rw [zzP,List.length_range];omega)]
   simp [Mean.St.mark]
  ·rw [if_neg e,rowM_get hj]
   have:¬((i,j,b)=(i,p,b)):=fun h=>e (by simpa using h.symm)
   simp [Mean.St.mark,this]
 ·rw [rowM_none hj,List.getElem?_set]
  have hl:¬j < (rowM s nt i b).length:=by unfold rowM;rw [zzP,List.length_range];omega
  split
  ·rename_i e;subst e;rw [if_neg hl]
  ·exact (rowM_none hj).symm
theorem rowM_other {s:Mean.St} {nt i p j:Nat} {b b':Bool} (h:¬(j=i∧b'=b)):rowM (s.mark (i,p,b)) nt j b'=rowM s nt j b':=by
 unfold rowM
 refine List.map_congr_left fun q _=>?_
 have:¬((j,q,b')=(i,p,b)):=fun e=>h (by simp only [Prod.mk.injEq] at e;exact ⟨e.1,e.2.2⟩)
 simp [Mean.St.mark,this]
theorem rowM_met {s:Mean.St} {nt i p:Nat} {b:Bool} (h:s.met (i,p,b)≠0):rowM (s.mark (i,p,b)) nt i b=rowM s nt i b:=by
 rw [rowM_mark]
 refine List.ext_getElem? fun j=>?_
 rw [List.getElem?_set]
 by_cases e:p=j
 ·subst e
  rw [if_pos rfl]
  by_cases hp:p≤nt
  ·rw [rowM_get hp,if_pos (by unfold rowM;rw [zzP,List.length_range];omega),decide_eq_true h]
  ·rw [rowM_none hp,if_neg (by unfold rowM;rw [zzP,List.length_range];omega)]
 ·rw [if_neg e]
structure Wr.wf (G:Wr):Prop where
 rep:∀ m∈G.root.all,RepN G.L m
 top:∃ nd,G.L[G.root.ad]?=some nd∧nd.up=-1
 ads:(G.root.all.map Mean.Un.ad).Nodup
 ok:∃ g:Int,(G.NL:Int)=2*g+2∧∀ n∈G.root.all,nodeOk g n.kind n.rng n.ast n.ix n.subs.length
 cat:∀ n∈G.root.all,n.kind=4→n.subs≠[]
 fixn:G.fixB.Nodup
 gbl:G.gb.length=G.L.length
 gdl:G.gd.length=G.L.length
 nl:2≤G.NL∧G.NL≤1099511627
 len:G.t.length=G.nt
 short:G.nt≤64
 few:G.L.length≤1000000000
structure Wr.cst (G:Wr) (w:World):Prop where
 lt:∀ b∈G.fixB,b < w.heap.size
 base:G.base≤w.heap.size
 tree:G.still w G.tb∧Blk w G.tb 68 [.slice G.LA G.L.length G.lc]
 nodes:RdA w (G.still w) 8 G.LA G.L.length G.lc (ndRow G.L)
 lists:∀ v∈G.L,RdA w (G.still w) 2 v.ra v.rng.length v.rc (flat v.rng)∧RdA w (G.still w) 1 v.sa v.subs.length v.sc (numsR v.subs)
 text:RdA w (G.still w) 1 G.At G.nt G.ct (G.t.map (Value.int .i64))
 beg:RdA w (G.still w) 1 G.BA G.gb.length G.bc (G.gb.map (slB (G.nt+1)))
 dcd:RdA w (G.still w) 1 G.DA G.gd.length G.dc (G.gd.map (slB (G.nt+1)))
def outW6 (l:List (Nat × Option Addr × Nat × List Int)):List Value:=l.flatMap fun p=>[.int .i64 (p.1:Int),.slice p.2.1 p.2.2.2.length p.2.2.1]
def Wr.vals (G:Wr) (V:Value):List Value:=[.pointer (some ⟨G.tb,0,none⟩),.slice G.At G.nt G.ct,.int .i64 (G.at_:Int),.slice G.BA G.gb.length G.bc,.slice G.DA G.gd.length G.dc,.slice (some ⟨G.eb,0,none⟩) (G.nt+1) (G.nt+1),V]
structure Wr.st (G:Wr) (w:World) (s:Mean.St):Prop where
 out:∃ V ps,Blk w G.wb 73 (G.vals V)∧w.ownsRow G.base 44 2 V s.out.length (outW6 ps)∧s.out=ps.map (fun p=>(p.1,p.2.2.2))∧(∀ p∈ps,RdA w (G.still w) 1 p.2.1 p.2.2.2.length p.2.2.1 (p.2.2.2.map (Value.int .i64))∧p.2.2.2.length=G.NL)
 beg:∀ i g,G.gb[i]?=some g→Blk w g 4 (rowM s G.nt i false)
 dcd:∀ i g,G.gd[i]?=some g→Blk w g 4 (rowM s G.nt i true)
 end_ : Blk w G.eb 4 (rowE s G.nt)
 ends : (s.out.map (·.1)).Nodup ∧ ∀ p ∈ s.out, p.1 ≤ G.nt
section
variable {G:Wr} {w w':World} {s:Mean.St}
theorem Wr.cst.fr (h:G.cst w) (f:G.fr w w'):G.cst w' :=
 ⟨fun b hb=>zzQ (h.lt b hb) f.kept.size,zzU h.base f.kept.size,⟨h.tree.1.fr f,h.tree.2.still6 h.tree.1 f⟩,h.nodes.fr6 f,fun v hv=>⟨(h.lists v hv).1.fr6 f,(h.lists v hv).2.fr6 f⟩,h.text.fr6 f,h.beg.fr6 f,h.dcd.fr6 f⟩
theorem Wr.cst.wb (h:G.cst w):G.wb < w.heap.size:=h.lt _ zzH
theorem Wr.cst.below (h:G.cst w) (hb:Below w.heap.size w w'):G.fr w w':=.of_below hb h.wb
theorem Wr.st.below (h:G.st w s) (hc:G.cst w) (hb:Below w.heap.size w w'):G.st w' s:=by
 obtain ⟨⟨V,ps,h1,h2,h3,h4⟩,h5,h6,h7,h8⟩:=h
 exact ⟨⟨V,ps,h1.below hb h1.lt,own_below h2 hb,h3,fun p hp=>⟨(h4 p hp).1.fr6 (hc.below hb),(h4 p hp).2⟩⟩,fun i g hg=>(h5 i g hg).below hb (h5 i g hg).lt,fun i g hg=>(h6 i g hg).below hb (h6 i g hg).lt,h7.below hb h7.lt,h8⟩
theorem fix_one:∀ {l:List Nat} (_:l.Nodup) {i j x:Nat} (_:l[i]?=some x) (_:l[j]?=some x),i=j
 | [],_,i,_,_,hi,_=>by simp at hi
 | a :: l,hn,0,0,x,_,_=>rfl
 | a :: l,hn,0,j+1,x,hi,hj=>by
  rw [List.nodup_cons] at hn
  simp only [zzR,zzd] at hi
  exact absurd (zzL (by simpa using hj)) (by rw [←hi];exact hn.1)
 | a :: l,hn,i+1,0,x,hi,hj=>by
  rw [List.nodup_cons] at hn
  simp only [zzR,zzd] at hj
  exact absurd (zzL (by simpa using hi)) (by rw [←hj];exact hn.1)
 | a :: l,hn,i+1,j+1,x,hi,hj=>by
  rw [List.nodup_cons] at hn
  rw [fix_one hn.2 (i:=i) (j:=j) (by simpa using hi) (by simpa using hj)]
theorem Wr.fr.set_ (hc:G.cst w) {g q:Nat} {x:Value} (hg:g∈G.fixB) (hne:g≠G.wb):G.fr w (w.setCell ⟨g,q,none⟩ x) :=
 ⟨(Kept.setCell ⟨g,q,none⟩ x).more fun k hk=>by
  rw [zzE] at hk
  exact .inl (mem_mut6.2 (.inl (by rw [hk];exact hg))),fun b hb=>.inl (by
  unfold outB6 at hb ⊢
  rwa [(Kept.setCell (w:=w) ⟨g,q,none⟩ x).cell (p:=⟨G.wb,6,none⟩) hc.wb (by rw [zzE];exact hne.symm)] at hb),hc.wb⟩
theorem Wr.marked (hwf:G.wf) (hc:G.cst w) (hs:G.st w s) {i g pl:Nat} {b:Bool} (hg:(if b then G.gd else G.gb)[i]?=some g):G.fr w (w.setCell ⟨g,pl,none⟩ (.bool true))∧G.st (w.setCell ⟨g,pl,none⟩ (.bool true)) (s.mark (i,pl,b)):=by
 have hn:=hwf.fixn
 unfold Wr.fixB at hn
 rw [List.nodup_cons,List.nodup_cons] at hn
 obtain ⟨n1,n2,n3⟩:=hn
 obtain ⟨n4,n5,n6⟩:=List.nodup_append.1 n3
 have hmem:g∈G.gb++G.gd:=by
  cases b with
  | true=>exact zzV _ (zzL hg)
  | false=>exact zzW _ (zzL hg)
 have hgw:g≠G.wb:=fun e=>n1 (zzI _ (by rw [←e];exact hmem))
 have hge:g≠G.eb:=fun e=>n2 (by rw [←e];exact hmem)
 have hfr:G.fr w (w.setCell ⟨g,pl,none⟩ (.bool true)):=Wr.fr.set_ hc (zzI _ (zzI _ hmem)) hgw
 obtain ⟨⟨V,ps,h1,h2,h3,h4⟩,h5,h6,h7,h8⟩:=hs
 have hbk:∃ cs,Blk w g 4 cs:=by
  cases b with
  | true=>exact ⟨_,h6 i g hg⟩
  | false=>exact ⟨_,h5 i g hg⟩
 obtain ⟨cs,hbk⟩:=hbk
 refine ⟨hfr,⟨V,ps,h1.far (p:=⟨g,pl,none⟩) hgw.symm _,own_kept h2 (Kept.setCell _ _) (fun x hx hm=>?_),h3,fun p hp=>⟨(h4 p hp).1.fr6 hfr,(h4 p hp).2⟩⟩,fun j g' hj=>?_,fun j g' hj=>?_,h7.far (p:=⟨g,pl,none⟩) hge.symm _,h8⟩
 ·rw [zzE] at hm
  exact blk_apart h2 hbk (by decide) (by rw [hx,hm])
 ·by_cases e:g'=g
  ·subst e
   have hbf:b=false:=by
    cases b with
    | false=>rfl
    | true=>exact absurd rfl (n6 g' (zzL hj) g' (zzL hg))
   subst hbf
   obtain rfl:=fix_one n4 hj hg
   rw [rowM_mark]
   exact (h5 j g' hj).set_ pl _
  ·rw [rowM_other fun h=>e (by obtain ⟨rfl,rfl⟩:=h;have hg':G.gb[j]?=some g:=hg;rw [hj] at hg';exact Option.some.inj hg')]
   exact (h5 j g' hj).far (p:=⟨g,pl,none⟩) e _
 ·by_cases e:g'=g
  ·subst e
   have hbt:b=true:=by
    cases b with
    | true=>rfl
    | false=>exact absurd rfl (n6 g' (zzL hg) g' (zzL hj))
   subst hbt
   obtain rfl:=fix_one n5 hj hg
   rw [rowM_mark]
   exact (h6 j g' hj).set_ pl _
  ·rw [rowM_other fun h=>e (by obtain ⟨rfl,rfl⟩:=h;have hg':G.gd[j]?=some g:=hg;rw [hj] at hg';exact Option.some.inj hg')]
   exact (h6 j g' hj).far (p:=⟨g,pl,none⟩) e _
theorem Wr.again (hs:G.st w s) {i pl:Nat} {b:Bool} (h:s.met (i,pl,b)≠0):G.st w (s.mark (i,pl,b)):=by
 have e:∀ j b',rowM (s.mark (i,pl,b)) G.nt j b'=rowM s G.nt j b':=fun j b'=>by
  by_cases hj:j=i∧b'=b
  ·obtain ⟨rfl,rfl⟩:=hj;exact rowM_met h
  ·exact rowM_other hj
 obtain ⟨h1,h5,h6,h7,h8⟩:=hs
 exact ⟨h1,fun j g hg=>by rw [e];exact h5 j g hg,fun j g hg=>by rw [e];exact h6 j g hg,h7,h8⟩
end
def Wr.does (G:Wr) (s:Mean.St) (k:Mean.Task) (s':Mean.St):Prop :=
 match k with
 | .beg n pl nt K=>Mean.InT G.root n K→pl≤G.nt→nt.length=G.NL→∀ (w:World) (N:Option Addr) (c:Nat),G.cst w→G.st w s→RdA w (G.still w) 1 N G.NL c (nt.map (Value.int .i64)) →
   Calls Try.prog 27 #[.pointer (some ⟨G.wb,0,none⟩),.int .i64 (n.ad:Int),.int .i64 (pl:Int),.slice N G.NL c] w fun e w'=>e=.returned (.tuple #[])∧G.fr w w'∧G.st w' s'
 | .dcd n pl nt K=>Mean.InT G.root n K→(n.kind=-2∨n.kind=-3)→pl≤G.nt→nt.length=G.NL→∀ (w:World) (N:Option Addr) (c:Nat),G.cst w→G.st w s→RdA w (G.still w) 1 N G.NL c (nt.map (Value.int .i64)) →
   Calls Try.prog 45 #[.pointer (some ⟨G.wb,0,none⟩),.int .i64 (n.ad:Int),.int .i64 (pl:Int),.slice N G.NL c] w fun e w'=>e=.returned (.tuple #[])∧G.fr w w'∧G.st w' s'
 | .go K pl nt=>∀ n,Mean.InT G.root n K→pl≤G.nt→nt.length=G.NL→∀ (w:World) (N:Option Addr) (c:Nat),G.cst w→G.st w s→RdA w (G.still w) 1 N G.NL c (nt.map (Value.int .i64)) →
   Calls Try.prog 39 #[.pointer (some ⟨G.wb,0,none⟩),.int .i64 (n.ad:Int),.int .i64 (pl:Int),.slice N G.NL c] w fun e w'=>e=.returned (.tuple #[])∧G.fr w w'∧G.st w' s'
def Wr.chain (G:Wr):Mean.St→List Mean.Task→Mean.St→Prop
 | s,[],s'=>s'=s
 | s,k :: l,s'=>∃ s1,G.does s k s1∧G.chain s1 l s'
theorem Wr.cst.node {G:Wr} {w:World} (hwf:G.wf) (h:G.cst w) {n:Mean.Un} (hn:n∈G.root.all) :
  ∃ v b o,G.L[n.ad]?=some v∧n.ad < G.L.length∧G.LA=some ⟨b,o,none⟩∧(∀ q x,q < 8→(ndVals v)[q]?=some x→w.cell? ⟨b,o+n.ad*8+q,none⟩=some x)∧v.kind=kindR n.kind∧v.ast=n.ast∧v.ix=n.ix∧v.rng=n.rng∧v.subs=n.subs.map Mean.Un.ad∧v.lz=n.lz:=by
 obtain ⟨⟨v,h1,h2,h3,h4,h5,h6,h7⟩,-⟩:=hwf.rep n hn
 have hl:=(zzK.1 h1).1
 obtain ⟨b,o,e,hb,hc⟩:=h.nodes.2.2.2.2 (by omega)
 exact ⟨v,b,o,h1,hl,e,fun q x hq hx=>by rw [Nat.add_assoc];exact hc _ _ ((ndRow_get G.L n.ad q v h1 hq).trans hx),h2,h3,h4,h5,h6,h7⟩
theorem Wr.cst.row {G:Wr} {w:World} (h:G.cst w) {i g:Nat} (hg:G.gb[i]?=some g):∃ b o,G.BA=some ⟨b,o,none⟩∧w.cell? ⟨b,o+i,none⟩=some (slB (G.nt+1) g):=by
 obtain ⟨b,o,e,hb,hc⟩:=h.beg.2.2.2.2 (by have:=(zzK.1 hg).1;omega)
 exact ⟨b,o,e,hc i _ (by rw [zza,hg];rfl)⟩
theorem Wr.cst.rowD {G:Wr} {w:World} (h:G.cst w) {i g:Nat} (hg:G.gd[i]?=some g):∃ b o,G.DA=some ⟨b,o,none⟩∧w.cell? ⟨b,o+i,none⟩=some (slB (G.nt+1) g):=by
 obtain ⟨b,o,e,hb,hc⟩:=h.dcd.2.2.2.2 (by have:=(zzK.1 hg).1;omega)
 exact ⟨b,o,e,hc i _ (by rw [zza,hg];rfl)⟩
end Go.Proofs.Ytkhkllpdhnmhkaa
namespace Go.Proofs.Ytkhkllpdhnmhkaa
open Go.RowKit
theorem set_map_int6 (l:List Int) (j:Nat) (x:Int):(l.map (Value.int .i64)).set j (.int .i64 x)=(l.set j x).map (Value.int .i64):=by rw [List.map_set]
set_option maxRecDepth 100000 in
set_option maxHeartbeats 1000000 in
theorem noted6_any (N:Option Addr) (n c j:Nat) (nt:List Int) (x:Int) (w:World) (hr:Reads w w.heap.size 1 N n c (nt.map (Value.int .i64))) (hn:n≤1099511627) (hj:j < n) :
  Calls Try.prog 43 #[.slice N n c,.int .i64 (j:Int),.int .i64 x] w fun e w'=>∃ N' c',e=.returned (.slice N' n c')∧Below w.heap.size w w'∧RdA w' (fun b=>w.heap.size≤b∧b < w'.heap.size) 1 N' n c' ((nt.set j x).map (Value.int .i64)):=by
 have hji:(j:Int) < (n:Int):=by omega
 have hl:nt.length=n:=by have:=hr.len;simpa using this
 obtain ⟨b,o,rfl,hb,hc⟩:=hr.at_ (by omega)
 have hnc:=hr.1
 have hcm:=hr.2.1
 have hb1:Below w.heap.size w (w.alloc (.cells #[] 3)):=(zzb _ _).alloc (zzF _) _
 have ho:(w.alloc (.cells #[] 3)).ownsRow w.heap.size 3 1 (.slice (some ⟨w.heap.size,0,none⟩) 0 0) 0 []:=by
  have:=(Blk.new w 3 []).own (base:=w.heap.size) (size:=1) (n:=0) (c:=0) (zzF _) (zzF _) (by decide) rfl
  exact this
 have hcs:∀ q u,(nt.map (Value.int .i64))[q]?=some u→(w.alloc (.cells #[] 3)).cell? ((⟨b,o,none⟩:Addr).add q)=some u:=fun q u hq=>by
  rw [add_lit]
  exact (hb1.cell (p:=⟨b,o+q,none⟩) hb).trans (hc q u hq)
 obtain ⟨i1,hi1,hz10,hz11,hz12⟩:=info_parts info_intR
 have HB1:=zzA hb1
 have HLN:=zzA hl
 have hln:(nt.map (Value.int .i64)).length=n*1:=by rw [zzP,hl,Nat.mul_one]
 have hcell:∀ u∈nt.map (Value.int .i64),u.oneCell'=true:=fun u hu=>by
  obtain ⟨y,-,rfl⟩:=List.mem_map.1 hu;rfl
 have HCELL:=zzA hcell
 have HCS:=zzA hcs
 have HO:=zzA ho
 have HLL:=zzA hln
 clear hr hc hb hb1 hl ho hcs hln hcell
 go_enter Try.func43,Try.ntmps43
 go_wp2_with (at_builtin;go_loud (refine wpList_append_lies _ rfl (.tmp 8) (.tmp 9) 26 rfl w.heap.size 3 i1 (.int .i64 0) 1 8 Try.underlying26 hi1 hz10 hz11 hz12 rfl (by decide) (.slice (some ⟨w.heap.size,0,none⟩) 0 0) 0 [] rfl HO.out ⟨b,o,none⟩ n c (nt.map (Value.int .i64)) rfl HLL.out HCS.out HCELL.out (by omega) (by unfold maxLen;omega) (by omega) (by simp) _ rfl ?_);intro g cap w2 hou hg hat hlt;rw [Nat.zero_add,List.nil_append] at hou;have HOU:=zzA hou;have hro:=Reads.of_own hou;have hz0:=hou.frozenAt j;have hz1:w2.cell? ⟨g,j,none⟩=some (.int .i64 (nt.getD j 0)):=(by have:=hro.cellAt (j:=j) (u:=.int .i64 (nt.getD j 0)) (by rw [zza,List.getD_eq_getElem?_getD,zzJ (by rw [HLN.out];exact hj)];rfl);rwa [Nat.zero_add] at this);have hnc2:=hro.1;have hcm2:=hro.2.1;have HG:=zzA hg;have HAT:=zzA (show w.heap.size≤g from by rcases hat with h | h;simp [Value.ownBlock] at h;omega;simp at h;omega);rw [Nat.zero_add];clear hou hg hat hro)
 go_ret
 have hst:=(HOU.out.stored j (.int .i64 x)).1
 rw [set_map_int6] at hst
 have hr2:=Reads.of_own hst
 have hbw:Below w.heap.size w w2:=Below.kept HB1.out (Kept.of_grown' HG.out) (fun k hk=>by
  simp only [Value.ownBlock,Option.toList_some,zzE] at hk
  omega) HB1.out.size
 refine ⟨some ⟨g,0,none⟩,cap,rfl,Below.kept hbw (Kept.setCell ⟨g,j,none⟩ _) (fun k hk=>by simp only [zzE] at hk;subst hk;exact HAT.out) hbw.size,?_⟩
 exact ⟨hr2.1,hr2.2.1,hr2.2.2.1,(fun h=>by cases h),fun _=>⟨g,0,rfl,⟨HAT.out,by simpa using hlt⟩,fun k u hu=>hr2.cellAt hu⟩⟩
end Go.Proofs.Ytkhkllpdhnmhkaa
