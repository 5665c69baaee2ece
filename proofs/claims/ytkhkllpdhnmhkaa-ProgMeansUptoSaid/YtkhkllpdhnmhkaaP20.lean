/- heronref06's walker.behind: the whole. -/
import Derived.Test.YtkhkllpdhnmhkaaP14
import Derived.Test.YtkhkllpdhnmhkaaP19
namespace Go.Proofs.Ytkhkllpdhnmhkaa
open Go.RowKit
theorem info_parseR:(Try.prog.info? 44).map (fun i=>(i.zero,i.size,i.bytes))=some (some (.agg #[.int .i64 0,.slice none 0 0]),2,32):=by kernel_rfl
theorem outW6_app (a b:List (Nat × Option Addr × Nat × List Int)):outW6 (a++b)=outW6 a++outW6 b:=by unfold outW6;rw [List.flatMap_append]
theorem rowE_set {s s':Mean.St} {nt pl:Nat} {x:List Int} (h:s'.out=s.out++[(pl,x)]):rowE s' nt=(rowE s nt).set pl (.bool true):=by
 refine List.ext_getElem? fun j=>?_
 have hl:(rowE s nt).length=nt+1:=by unfold rowE;rw [zzP,List.length_range]
 by_cases hj:j≤nt
 ·rw [rowE_get hj,List.getElem?_set,h,List.any_append]
  by_cases e:pl=j
  ·subst e
   rw [if_pos rfl,if_pos (by omega)];simp
  ·rw [if_neg e,rowE_get hj]
   simp [e]
 ·rw [List.getElem?_eq_none (by unfold rowE;rw [zzP,List.length_range];omega),List.getElem?_eq_none (by rw [List.length_set];omega)]
theorem Wr.fr.app {G:Wr} {w w5:World} {V:Value} {g n c:Nat} (hc:G.cst w) (ho:outB6 G.wb w=V.ownBlock) (hg:w.grownBy w5 V.ownBlock) (hat:V.ownBlock=some g∨w.heap.size≤g) (hl:G.wb < w5.heap.size) {cs:List Value} (hb:Blk w5 G.wb 73 cs) (hcs:6 < cs.length) :
  G.fr w (w5.setCell ⟨G.wb,6,none⟩ (.slice (some ⟨g,0,none⟩) n c)):=by
 refine ⟨((Kept.of_grown' hg).trans (Kept.setCell ⟨G.wb,6,none⟩ _)).more fun k hk=>?_,fun b hb'=>?_,hc.wb⟩
 ·rcases zzM.1 hk with hk | hk
  ·exact .inl (mem_mut6.2 (.inr (by rw [ho];simpa using hk)))
  ·rw [zzE] at hk
   exact .inl (mem_mut6.2 (.inl (by rw [hk];exact zzH)))
 ·have hcell:(w5.setCell ⟨G.wb,6,none⟩ (.slice (some ⟨g,0,none⟩) n c)).cell? ⟨G.wb,6,none⟩=some (.slice (some ⟨g,0,none⟩) n c):=by
   rw [(hb.set_ 6 (.slice (some ⟨g,0,none⟩) n c)).cell,List.getElem?_set_self hcs]
  unfold outB6 at hb'
  rw [hcell] at hb'
  have e:g=b:=by simpa [Value.ownBlock] using hb'
  subst e
  rw [ho]
  exact hat
theorem own_old {G:Wr} {w w1 w2 w3 w4:World} {s:Mean.St} {V:Value} {b:Nat} (hs:G.st w s) (hc:G.cst w) (hb:V.ownBlock=some b) (hbk4:Blk w4 G.wb 73 (G.vals V)) (hf1:G.fr w w1) (hf2:G.fr w1 w2) (hk3:w3.cell? ⟨G.wb,6,none⟩=w2.cell? ⟨G.wb,6,none⟩) (hk4:w4.cell? ⟨G.wb,6,none⟩=w3.cell? ⟨G.wb,6,none⟩) (hV:w2.cell? ⟨G.wb,6,none⟩=w.cell? ⟨G.wb,6,none⟩):b < w.heap.size:=by
 obtain ⟨V0,ps,hbk,ho,-⟩:=hs.out
 have e:some V=some V0:=by
  rw [←show w4.cell? ⟨G.wb,6,none⟩=some V from hbk4.cell 6,hk4,hk3,hV]
  exact hbk.cell 6
 rw [zzd] at e
 subst e
 exact (ho.lt b hb).2
theorem behind_fin {G:Wr} {w w2 w3 w4 w5:World} {s s':Mean.St} {pl c3 g5 cap5:Nat} {N3:Option Addr} {nt:List Int} {V:Value} {ps:List (Nat × Option Addr × Nat × List Int)} (hpl:pl≤G.nt) (hwf:G.wf) (hc:G.cst w) (hs:G.st w s) (hew:G.eb≠G.wb)
  (hss:s'.out=s.out++[(pl,(nt.set 0 (G.at_:Int)).set 1 (pl:Int))]∧s'.met=s.met) (hps:s.out=ps.map (fun p=>(p.1,p.2.2.2))) (hrd:∀ p∈ps,RdA w (G.still w) 1 p.2.1 p.2.2.2.length p.2.2.1 (p.2.2.2.map (Value.int .i64))∧p.2.2.2.length=G.NL)
  (hf1:G.fr w (w.setCell ⟨G.eb,pl,none⟩ (.bool true))) (hf2:G.fr (w.setCell ⟨G.eb,pl,none⟩ (.bool true)) w2) (hc2:G.cst w2) (hb3:Below w2.heap.size w2 w3) (hb34:Below w3.heap.size w3 w4) (hn3:RdA w3 (fun b=>w2.drew.heap.size≤b∧b < w3.heap.size) 1 N3 G.NL c3 (((nt.set 0 (G.at_:Int)).set 1 (pl:Int)).map (Value.int .i64)))
  (hbk4:Blk w4 G.wb 73 (G.vals V)) (hown4:w4.ownsRow G.base 44 2 V s.out.length (outW6 ps)) (hg5:w4.grownBy w5 V.ownBlock) (hat:V.ownBlock=some g5∨w4.heap.size≤g5) (hbk5:Blk w5 G.wb 73 (G.vals V))
  (hou:w5.ownsRow G.base 44 2 (.slice (some ⟨g5,0,none⟩) (s.out.length+1) cap5) (s.out.length+1) (outW6 ps++[.int .i64 (pl:Int),.slice N3 G.NL c3])) (hlen:nt.length=G.NL) (hany:(s.out.any fun q=>q.1==pl)=false)
  (hW12:Below ((w.setCell ⟨G.eb,pl,none⟩ (.bool true))).heap.size (w.setCell ⟨G.eb,pl,none⟩ (.bool true)) w2) :
  (Ending.returned (.tuple #[])=Ending.returned (.tuple #[]))∧G.fr w (w5.setCell ⟨G.wb,6,none⟩ (.slice (some ⟨g5,0,none⟩) (s.out.length+1) cap5))∧G.st (w5.setCell ⟨G.wb,6,none⟩ (.slice (some ⟨g5,0,none⟩) (s.out.length+1) cap5)) s':=by
 have hf3:G.fr w2 w4:=(hc2.below hb3).trans ((hc2.fr (hc2.below hb3)).below hb34)
 have hc4:=hc2.fr hf3
 have ho4:outB6 G.wb w4=V.ownBlock:=by unfold outB6;rw [show w4.cell? ⟨G.wb,6,none⟩=some V from hbk4.cell 6];rfl
 have hf4:G.fr w4 (w5.setCell ⟨G.wb,6,none⟩ (.slice (some ⟨g5,0,none⟩) (s.out.length+1) cap5)):=Wr.fr.app hc4 ho4 hg5 hat hbk5.lt hbk5 (by unfold Wr.vals;simp)
 have hF:G.fr w (w5.setCell ⟨G.wb,6,none⟩ (.slice (some ⟨g5,0,none⟩) (s.out.length+1) cap5)):=hf1.trans (hf2.trans (hf3.trans hf4))
 have hn:=hwf.fixn
 unfold Wr.fixB at hn
 rw [List.nodup_cons,List.nodup_cons] at hn
 obtain ⟨n1,n2,-⟩:=hn
 have move:∀ {g:Nat} {cs:List Value},g≠G.wb→Blk (w.setCell ⟨G.eb,pl,none⟩ (.bool true)) g 4 cs→Blk (w5.setCell ⟨G.wb,6,none⟩ (.slice (some ⟨g5,0,none⟩) (s.out.length+1) cap5)) g 4 cs:=fun {g cs} hgw hb=>by
  have h2:=hb.below hW12 hb.lt
  have h3:=h2.below hb3 h2.lt
  have h4:=h3.below hb34 h3.lt
  have hne:=blk_apart hown4 h4 (by decide)
  exact (h4.kept (Kept.of_grown' hg5) (fun hm=>hne (by simpa [eq_comm] using hm))).far (p:=⟨G.wb,6,none⟩) hgw _
 refine ⟨rfl,hF,⟨.slice (some ⟨g5,0,none⟩) (s.out.length+1) cap5,ps++[(pl,N3,c3,(nt.set 0 (G.at_:Int)).set 1 (pl:Int))],hbk5.set_ 6 _,?_,?_,fun p hp=>?_⟩,fun i g hg=>?_,fun i g hg=>?_,?_,?_,fun p hp=>?_⟩
 ·rw [hss.1,zzG,outW6_app]
  have e:outW6 [(pl,N3,c3,(nt.set 0 (G.at_:Int)).set 1 (pl:Int))]=[.int .i64 (pl:Int),.slice N3 G.NL c3]:=by
   unfold outW6;simp [hlen]
  rw [e]
  exact own_kept hou (Kept.setCell _ _) (fun x hx hm=>by
   rw [zzE] at hm
   exact blk_apart hou hbk5 (by decide) (by rw [hx,hm]))
 ·rw [hss.1,hps,zzT];rfl
 ·rcases zzM.1 hp with hp | hp
  ·exact ⟨(hrd p hp).1.fr6 hF,(hrd p hp).2⟩
  ·rw [zzE] at hp
   subst hp
   have hl:((nt.set 0 (G.at_:Int)).set 1 (pl:Int)).length=G.NL:=by rw [List.length_set,List.length_set,hlen]
   refine ⟨?_,hl⟩
   simp only [hl]
   have h3:RdA w3 (G.still w3) 1 N3 G.NL c3 (((nt.set 0 (G.at_:Int)).set 1 (pl:Int)).map (Value.int .i64)):=hn3.mono fun b ⟨h1,h2⟩=>⟨h2,fun hm=>by
    have h1:w2.heap.size≤b:=h1
    rcases mem_mut6.1 hm with e | e
    ·have:=hc2.lt b e;omega
    ·have hk3:w3.cell? ⟨G.wb,6,none⟩=w2.cell? ⟨G.wb,6,none⟩:=hb3.cell (p:=⟨G.wb,6,none⟩) hc2.wb
     have hk4:w4.cell? ⟨G.wb,6,none⟩=w3.cell? ⟨G.wb,6,none⟩:=hb34.cell (p:=⟨G.wb,6,none⟩) (zzQ hc2.wb hb3.size)
     have hb:V.ownBlock=some b:=by
      unfold outB6 at e
      rw [←hk4,show w4.cell? ⟨G.wb,6,none⟩=some V from hbk4.cell 6] at e
      exact e
     have hlt:=own_old hs hc hb hbk4 hf1 hf2 hk3 hk4 ((hW12.cell (p:=⟨G.wb,6,none⟩) (zzQ hc.wb hf1.kept.size)).trans ((Kept.setCell (w:=w) ⟨G.eb,pl,none⟩ (.bool true)).cell (p:=⟨G.wb,6,none⟩) hc.wb (by rw [zzE];exact hew.symm)))
     have:=zzQ hlt hf1.kept.size
     have:=zzQ this hf2.kept.size
     omega⟩
   exact h3.fr6 (((hc2.fr (hc2.below hb3)).below hb34).trans hf4)
 ·rw [show rowM s' G.nt i false=rowM s G.nt i false from by unfold rowM;rw [hss.2]]
  have hm:g∈G.gb++G.gd:=zzW _ (zzL hg)
  exact move (fun e=>n1 (zzI _ (by rw [←e];exact hm))) ((hs.beg i g hg).far (p:=⟨G.eb,pl,none⟩) (show g≠G.eb from fun e=>n2 (by rw [←e];exact hm)) _)
 ·rw [show rowM s' G.nt i true=rowM s G.nt i true from by unfold rowM;rw [hss.2]]
  have hm:g∈G.gb++G.gd:=zzV _ (zzL hg)
  exact move (fun e=>n1 (zzI _ (by rw [←e];exact hm))) ((hs.dcd i g hg).far (p:=⟨G.eb,pl,none⟩) (show g≠G.eb from fun e=>n2 (by rw [←e];exact hm)) _)
 ·rw [rowE_set hss.1]
  exact move hew (hs.end_.set_ pl _)
 ·rw [hss.1,zzT]
  refine List.nodup_append.2 ⟨hs.ends.1,by simp,fun a ha b hb e=>?_⟩
  simp only [zzS,List.map_nil,zzE] at hb
  obtain ⟨q,hq,rfl⟩:=List.mem_map.1 ha
  rw [List.any_eq_false] at hany
  exact hany q hq (by rw [e,hb];simp)
 ·rw [hss.1] at hp
  rcases zzM.1 hp with hp | hp
  ·exact hs.ends.2 p hp
  ·rw [zzE] at hp;rw [hp];exact hpl
set_option maxRecDepth 100000 in
set_option maxHeartbeats 8000000 in
theorem behind_top (G:Wr) (hwf:G.wf) (s s':Mean.St) (pl:Nat) (nt:List Int) (h:s'=Mean.ended G.at_ s pl nt) (hpl:pl≤G.nt) (hlen:nt.length=G.NL) (w:World) (N:Option Addr) (c:Nat) (hc:G.cst w) (hs:G.st w s) (hr:RdA w (G.still w) 1 N G.NL c (nt.map (Value.int .i64))) :
  Calls Try.prog 39 #[.pointer (some ⟨G.wb,0,none⟩),.int .i64 (G.root.ad:Int),.int .i64 (pl:Int),.slice N G.NL c] w fun e w'=>e=.returned (.tuple #[])∧G.fr w w'∧G.st w' s':=by
 obtain ⟨un,hun,hup⟩:=hwf.top
 have hnl2:=(zzK.1 hun).1
 obtain ⟨lb,lo,hla⟩:=hc.la (by omega)
 have HLA:=zzA hla
 have n6:w.cell? ⟨lb,lo+G.root.ad*8+6,none⟩=some (.int .i64 (-1)):=by rw [←hup];exact hc.cells hla hun 6 _ (by decide) rfl
 obtain ⟨q0,q1,q2,q3,q4,q5⟩:=(hs).wcells
 have qt:w.cell? ⟨G.tb,0,none⟩=some (.slice (some ⟨lb,lo,none⟩) G.L.length G.lc):=by rw [←HLA.out];exact (hc).tree.2.cell 0
 have hni:(G.root.ad:Int) < (G.L.length:Int):=by omega
 have hfew:=hwf.few
 have hpi:(pl:Int) < (G.nt:Int)+1:=by omega
 have hsh:=hwf.short
 have e0:w.cell? ⟨G.eb,pl,none⟩=some (.bool (s.out.any fun q=>q.1==pl)):=(hs.end_.cell pl).trans (rowE_get hpl)
 have e1:=hs.end_.frozen pl
 have e2:=hs.end_.lt
 have hn:=hwf.fixn
 unfold Wr.fixB at hn
 rw [List.nodup_cons,List.nodup_cons] at hn
 have hew:G.eb≠G.wb:=fun e=>hn.1 (by rw [←e];exact zzH)
 have HEW:=zzA hew
 have HN:=zzA hn
 have HH:=zzA h
 have HWF:=zzA hwf
 have HC:=zzA hc
 have HS:=zzA hs
 have HPL:=zzA hpl
 have HLEN:=zzA hlen
 by_cases hany:(s.out.any fun q=>q.1==pl)=true
 ·rw [hany] at e0
  have hss:s'=s:=by rw [h];unfold Mean.ended;rw [if_pos hany]
  have HSS:=zzA hss
  clear hc hs hr hla hup hun hwf h hlen hn hss hew
  go_enter Try.func39,Try.ntmps39
  go_wp2_with fail
  refine bodyPost_ret (results_none rfl _ _ _) rfl ?_
  exact ⟨rfl,HC.out.below (zzb _ _),by rw [HSS.out];exact HS.out⟩
 ·have hany2:(s.out.any fun q=>q.1==pl)=false:=by revert hany;cases (s.out.any fun q=>q.1==pl) <;> simp
  rw [hany2] at e0
  have hss:s'.out=s.out++[(pl,(nt.set 0 (G.at_:Int)).set 1 (pl:Int))]∧s'.met=s.met:=by rw [h];unfold Mean.ended;rw [if_neg hany];exact ⟨rfl,rfl⟩
  have HSS:=zzA hss
  have HANY:=zzA hany2
  obtain ⟨V,ps,hbk,hown,hps,hrd⟩:=hs.out
  have hf1:G.fr w (w.setCell ⟨G.eb,pl,none⟩ (.bool true)):=Wr.fr.set_ hc (zzI _ zzH) hew
  have hc1:=hc.fr hf1
  have hbk1:Blk (w.setCell ⟨G.eb,pl,none⟩ (.bool true)) G.wb 73 (G.vals V):=hbk.far (p:=⟨G.eb,pl,none⟩) hew.symm _
  have hown1:((w.setCell ⟨G.eb,pl,none⟩ (.bool true))).ownsRow G.base 44 2 V s.out.length (outW6 ps):=own_kept hown (Kept.setCell _ _) (fun x hx hm=>by
   rw [zzE] at hm
   exact blk_apart hown hs.end_ (by decide) (by rw [hx,hm]))
  have hnt:=noted6_any N G.NL c 0 nt (G.at_:Int) (w.setCell ⟨G.eb,pl,none⟩ (.bool true)) ((hr.fr6 hf1).reads fun b hb=>hb.1) hwf.nl2 (by have:=hwf.nl.1;omega)
  have HNT:=zzA hnt
  have HF1:=zzA hf1
  have HC1:=zzA hc1
  have HBK1:=zzA hbk1
  have HOWN1:=zzA hown1
  have HOWN:=zzA hown
  have HPS:=zzA hps
  have HRD:=zzA hrd
  have d2:(w.setCell ⟨G.eb,pl,none⟩ (.bool true)).cell? ⟨G.wb,2,none⟩=some (.int .i64 (G.at_:Int)):=hbk1.cell 2
  clear hc hs hr hla hup hun hwf h hlen hn hss hew hf1 hc1 hbk1 hown1 hnt hbk hown hps hrd hany hany2
  go_enter Try.func39,Try.ntmps39
  go_wp2_with fail
  refine HNT.out.mono ?_
  rintro e w2 ⟨N2,c2,rfl,hb2,hn2⟩
  have HB2:=zzA hb2
  have HF2:=zzA (HC1.out.below hb2)
  have HC2:=zzA (HC1.out.fr HF2.out)
  have hbk2:=HBK1.out.below hb2 HBK1.out.lt
  have HBK2:=zzA hbk2
  have HOWN2:=zzA (own_below HOWN1.out hb2)
  have HN2:=zzA hn2
  clear hb2 hn2 d2 e0 e1 e2 n6 q0 q1 q2 q3 q4 q5 qt
  simp only []
  go_wp2_with fail
  have ya:w2.drew.cell? ⟨G.wb,6,none⟩=some V:=hbk2.cell 6
  have hpl2:=HPL.out
  clear hbk2
  refine wp_region_held_drew (S:=(fun _=>True)) (by kernel_rfl) trivial (fun hS0=>?_)
  refine wpAnyH_take (i:=0) (oi:={ dst:=some 44,op:=Op.move (Operand.tmp 0),type:=69,pos:= "ref.go:222",after:=#[],guard:=none }) (v:=?_) rfl (by kernel_rfl) (by kernel_rfl) (by kernel_rfl) (fun _ _ _ h=>h) (Or.inl ⟨by rfl,?_⟩) (by assumption) ?_
  rotate_left
  ·intro w hSw;(try dsimp only at hSw);go_simp;(try with_reducible rfl)
  (try simp only [Act.put,zzB,zzD,zzC])
  refine wpAnyH_take (i:=1) (oi:={ dst:=some 45,op:=Op.move (Operand.tmp 0),type:=69,pos:= "ref.go:222",after:=#[],guard:=none }) (v:=?_) rfl (by kernel_rfl) (by kernel_rfl) (by kernel_rfl) (fun _ _ _ h=>h) (Or.inl ⟨by rfl,?_⟩) (by assumption) ?_
  rotate_left
  ·intro w hSw;(try dsimp only at hSw);go_simp;(try with_reducible rfl)
  (try simp only [Act.put,zzB,zzD,zzC])
  refine wpAnyH_take (i:=2) (oi:={ dst:=some 46,op:=Op.nilCheck (Operand.tmp 45),type:=0,pos:= "ref.go:222",after:=#[{ on:=1,ground:=Ground.data }],guard:=none }) (v:=?_) rfl (by kernel_rfl) (by kernel_rfl) (by kernel_rfl) (fun _ _ _ h=>h) (Or.inl ⟨by rfl,?_⟩) (by assumption) ?_
  rotate_left
  ·intro w hSw;(try dsimp only at hSw);go_simp;(try with_reducible rfl)
  (try simp only [Act.put,zzB,zzD,zzC])
  refine wpAnyH_take (i:=3) (oi:={ dst:=some 47,op:=Op.fieldAddr 73 (Operand.tmp 46) 6,type:=0,pos:= "ref.go:222",after:=#[{ on:=2,ground:=Ground.data }],guard:=none }) (v:=?_) rfl (by kernel_rfl) (by kernel_rfl) (by kernel_rfl) (fun _ _ _ h=>h) (Or.inl ⟨by rfl,?_⟩) (by assumption) ?_
  rotate_left
  ·intro w hSw;(try dsimp only at hSw);go_simp;(try with_reducible rfl)
  (try simp only [Act.put,zzB,zzD,zzC])
  refine wpAnyH_take (i:=5) (oi:={ dst:=some 49,op:=Op.move (Operand.tmp 2),type:=3,pos:= "ref.go:222",after:=#[],guard:=none }) (v:=?_) rfl (by kernel_rfl) (by kernel_rfl) (by kernel_rfl) (fun _ _ _ h=>h) (Or.inl ⟨by rfl,?_⟩) (by assumption) ?_
  rotate_left
  ·intro w hSw;(try dsimp only at hSw);go_simp;(try with_reducible rfl)
  (try simp only [Act.put,zzB,zzD,zzC])
  refine wpAnyH_take (i:=6) (oi:={ dst:=some 50,op:=Op.move (Operand.tmp 3),type:=26,pos:= "ref.go:222",after:=#[],guard:=none }) (v:=?_) rfl (by kernel_rfl) (by kernel_rfl) (by kernel_rfl) (fun _ _ _ h=>h) (Or.inl ⟨by rfl,?_⟩) (by assumption) ?_
  rotate_left
  ·intro w hSw;(try dsimp only at hSw);go_simp;(try with_reducible rfl)
  (try simp only [Act.put,zzB,zzD,zzC])
  refine wpAnyH_take (i:=7) (oi:={ dst:=some 51,op:=Op.move (Operand.tmp 2),type:=3,pos:= "ref.go:222",after:=#[],guard:=none }) (v:=?_) rfl (by kernel_rfl) (by kernel_rfl) (by kernel_rfl) (fun _ _ _ h=>h) (Or.inl ⟨by rfl,?_⟩) (by assumption) ?_
  rotate_left
  ·intro w hSw;(try dsimp only at hSw);go_simp;(try with_reducible rfl)
  (try simp only [Act.put,zzB,zzD,zzC])
  refine wpAnyH_ready (rs:=[4,8]) (by kernel_rfl) (by simp) ?_
  refine AllReadyH.cons (o:={ dst:=some 48,op:=Op.load 36 (Operand.tmp 47),type:=36,pos:= "ref.go:222",after:=#[{ on:=3,ground:=Ground.data }],guard:=none }) rfl (fun K hK=>?_) ?_
  ·skip
   go_simp
   refine hK.out _ _ ?_ (fun hHeld=>?_)
   ·exact trivial
   clear hK K hHeld
   (try simp only [Act.put,zzB,zzD,zzC])
   refine wpAnyH_ready (rs:=[8]) (by kernel_rfl) (by simp) ?_
   refine AllReadyH.cons (o:={ dst:=some 52,op:=Op.call { callee:=Callee.value (Operand.func 43),args:=#[Operand.tmp 50,Operand.const (Value.int IntKind.i64 1),Operand.tmp 51],argTypes:=#[26,3,3] },type:=26,pos:= "ref.go:222",after:=#[{ on:=6,ground:=Ground.data },{ on:=7,ground:=Ground.data }],guard:=none }) rfl (fun K hK=>?_) ?_
   ·skip
    refine step_callv6 rfl 43 (.func 43) #[.tmp 50,.const (.int .i64 1),.tmp 51] _ #[] rfl rfl #[.slice N2 G.NL c2,.int .i64 1,.int .i64 (pl:Int)] (by simp only [List.map_toArray,zzS,List.map_nil];rfl) (enters6 Try.func43 (by kernel_rfl) (by kernel_rfl)) ?_
    have hnt3:=noted6_any N2 G.NL c2 1 (nt.set 0 (G.at_:Int)) (pl:Int) w2.drew ((HN2.out.reads fun b hb=>hb.2).below (zzb _ _).drew) HWF.out.nl2 (by have:=HWF.out.nl.1;omega)
    refine hnt3.mono ?_
    rintro e w3 ⟨N3,c3,rfl,hb3,hn3⟩
    have hb23:Below w2.heap.size w2 w3:=((zzb _ _).drew).trans hb3
    have hb34:Below w3.heap.size w3 (w3.alloc (.cells #[.int .i64 (pl:Int),.slice N3 G.NL c3] 44)):=(zzb _ _).alloc (zzF _) _
    have HB3:=zzA hb23
    have HB34:=zzA hb34
    have HN3:=zzA hn3
    have hbk3:=HBK2.out.below hb23 HBK2.out.lt
    have HBK4:=zzA (hbk3.below hb34 hbk3.lt)
    have HOWN4:=zzA (own_below (own_below HOWN2.out hb23) hb34)
    have yb:w3.cell? ⟨G.wb,6,none⟩=some V:=hbk3.cell 6
    have yc:(w3.alloc (.cells #[.int .i64 (pl:Int),.slice N3 G.NL c3] 44)).cell? ⟨G.wb,6,none⟩=some V:=HBK4.out.cell 6
    clear hnt3 hb3 hn3 hb23 hb34 hbk3
    refine ⟨_,rfl,?_⟩
    refine hK.out _ _ ?_ (fun hHeld=>?_)
    ·exact trivial
    clear hK K hHeld
    (try simp only [Act.put,zzB,zzD,zzC])
    refine wpAnyH_ready (rs:=[9]) (by kernel_rfl) (by simp) ?_
    refine AllReadyH.cons (o:={ dst:=some 53,op:=Op.build 44 #[(0,Operand.tmp 49),(1,Operand.tmp 52)],type:=44,pos:= "ref.go:222",after:=#[{ on:=5,ground:=Ground.data },{ on:=8,ground:=Ground.data }],guard:=none }) rfl (fun K hK=>?_) ?_
    ·skip
     go_simp
     refine hK.out _ _ ?_ (fun hHeld=>?_)
     ·exact trivial
     clear hK K hHeld
     (try simp only [Act.put,zzB,zzD,zzC])
     refine wpAnyH_ready (rs:=[10]) (by kernel_rfl) (by simp) ?_
     refine AllReadyH.cons (o:={ dst:=some 54,op:=Op.buildSlice 36 1 #[(0,Operand.tmp 53)],type:=36,pos:= "ref.go:222",after:=#[{ on:=9,ground:=Ground.data }],guard:=none }) rfl (fun K hK=>?_) ?_
     ·skip
      go_simp
      refine hK.out _ _ ?_ (fun hHeld=>?_)
      ·exact trivial
      clear hK K hHeld
      (try simp only [Act.put,zzB,zzD,zzC])
      refine wpAnyH_ready (rs:=[11]) (by kernel_rfl) (by simp) ?_
      refine AllReadyH.cons (o:={ dst:=some 55,op:=Op.call { callee:=Callee.builtin Builtin.append,args:=#[Operand.tmp 48,Operand.tmp 54],argTypes:=#[36,36] },type:=36,pos:= "ref.go:222",after:=#[{ on:=4,ground:=Ground.data },{ on:=10,ground:=Ground.data },{ on:=8,ground:=Ground.chain }],guard:=none }) rfl (fun K hK=>?_) ?_
      ·skip
       obtain ⟨i1,hi1,hz10,hz11,hz12⟩:=info_parts info_parseR
       have hlen5:s.out.length≤65:=by have h1:=nodup_le6 65 (s.out.map (·.1)) HS.out.ends.1 (fun x hx=>by obtain ⟨p,hp,rfl⟩:=List.mem_map.1 hx;have:=HS.out.ends.2 p hp;omega);rwa [zzP] at h1
       refine step_append_lies _ rfl (.tmp 48) (.tmp 54) 36 rfl G.base 44 i1 (.agg #[.int .i64 0,.slice none 0 0]) 2 32 Try.underlying36 hi1 hz10 hz11 hz12 rfl (by decide) V s.out.length (outW6 ps) rfl HOWN4.out ⟨w3.heap.size,0,none⟩ 1 1 [.int .i64 (pl:Int),.slice N3 G.NL c3] rfl rfl (new_atT w3 44 [.int .i64 (pl:Int),.slice N3 G.NL c3]) (by intro u hu;simp only [zzN,List.not_mem_nil,or_false] at hu;rcases hu with rfl | rfl <;> rfl) (by decide) (by unfold maxLen;omega) (by omega) (zzU HC2.out.base (zzU HB3.out.size HB34.out.size)) _ rfl ?_
       intro g5 cap5 w5 hou5 hg5 hat5 hlt5
       have HAT:=zzA (show V.ownBlock=some g5∨(w3.alloc (.cells #[.int .i64 (pl:Int),.slice N3 G.NL c3] 44)).heap.size≤g5 from hat5.imp id fun h=>by omega)
       have HG5:=zzA hg5
       have HOU:=zzA hou5
       have hne5:=blk_apart HOWN4.out HBK4.out (by decide)
       have hbk5:=HBK4.out.kept (Kept.of_grown' hg5) (fun hm=>hne5 (by simpa [eq_comm] using hm))
       have HBK5:=zzA hbk5
       have yd:w5.cell? ⟨G.wb,6,none⟩=some V:=hbk5.cell 6
       have ye:=hbk5.frozen 6
       have yf:=hbk5.lt
       clear hou5 hg5 hat5 hne5 hbk5 hlen5
       refine hK.out _ _ ?_ (fun hHeld=>?_)
       ·exact trivial
       clear hK K hHeld
       (try simp only [Act.put,zzB,zzD,zzC])
       refine wpAnyH_ready (rs:=[12]) (by kernel_rfl) (by simp) ?_
       refine AllReadyH.cons (o:={ dst:=some 56,op:=Op.nilCheck (Operand.tmp 44),type:=0,pos:= "ref.go:222",after:=#[{ on:=0,ground:=Ground.data },{ on:=0,ground:=Ground.phase },{ on:=1,ground:=Ground.phase },{ on:=2,ground:=Ground.phase },{ on:=3,ground:=Ground.phase },{ on:=4,ground:=Ground.phase },{ on:=5,ground:=Ground.phase },{ on:=6,ground:=Ground.phase },{ on:=7,ground:=Ground.phase },{ on:=8,ground:=Ground.phase },{ on:=9,ground:=Ground.phase },{ on:=10,ground:=Ground.phase },{ on:=11,ground:=Ground.phase }],guard:=none }) rfl (fun K hK=>?_) ?_
       ·skip
        go_simp
        refine hK.out _ _ ?_ (fun hHeld=>?_)
        ·exact trivial
        clear hK K hHeld
        (try simp only [Act.put,zzB,zzD,zzC])
        refine wpAnyH_ready (rs:=[13]) (by kernel_rfl) (by simp) ?_
        refine AllReadyH.cons (o:={ dst:=some 57,op:=Op.fieldAddr 73 (Operand.tmp 56) 6,type:=0,pos:= "ref.go:222",after:=#[{ on:=12,ground:=Ground.data },{ on:=0,ground:=Ground.phase },{ on:=1,ground:=Ground.phase },{ on:=2,ground:=Ground.phase },{ on:=3,ground:=Ground.phase },{ on:=4,ground:=Ground.phase },{ on:=5,ground:=Ground.phase },{ on:=6,ground:=Ground.phase },{ on:=7,ground:=Ground.phase },{ on:=8,ground:=Ground.phase },{ on:=9,ground:=Ground.phase },{ on:=10,ground:=Ground.phase },{ on:=11,ground:=Ground.phase }],guard:=none }) rfl (fun K hK=>?_) ?_
        ·skip
         go_simp
         refine hK.out _ _ ?_ (fun hHeld=>?_)
         ·exact trivial
         clear hK K hHeld
         (try simp only [Act.put,zzB,zzD,zzC])
         refine wpAnyH_ready (rs:=[14]) (by kernel_rfl) (by simp) ?_
         refine AllReadyH.cons (o:={ dst:=none,op:=Op.store 36 (Operand.tmp 57) (Operand.tmp 55),type:=0,pos:= "ref.go:222",after:=#[{ on:=13,ground:=Ground.data },{ on:=11,ground:=Ground.data },{ on:=11,ground:=Ground.chain },{ on:=0,ground:=Ground.phase },{ on:=1,ground:=Ground.phase },{ on:=2,ground:=Ground.phase },{ on:=3,ground:=Ground.phase },{ on:=4,ground:=Ground.phase },{ on:=5,ground:=Ground.phase },{ on:=6,ground:=Ground.phase },{ on:=7,ground:=Ground.phase },{ on:=8,ground:=Ground.phase },{ on:=9,ground:=Ground.phase },{ on:=10,ground:=Ground.phase },{ on:=11,ground:=Ground.phase }],guard:=none }) rfl (fun K hK=>?_) ?_
         ·skip
          go_simp
          refine hK.out _ _ ?_ (fun hHeld=>?_)
          ·exact trivial
          clear hK K hHeld
          (try simp only [Act.put,zzB,zzD,zzC])
          refine wpAnyH_done (by kernel_rfl) ?_ _
          go_wp2_with fail
          refine bodyPost_ret (results_none rfl _ _ _) rfl ?_
          exact behind_fin hpl2 HWF.out HC.out HS.out HEW.out HSS.out HPS.out HRD.out HF1.out HF2.out HC2.out HB3.out HB34.out HN3.out HBK4.out HOWN4.out HG5.out HAT.out HBK5.out HOU.out HLEN.out HANY.out HB2.out
         exact AllReadyH.nil
        exact AllReadyH.nil
       exact AllReadyH.nil
      exact AllReadyH.nil
     exact AllReadyH.nil
    exact AllReadyH.nil
   exact AllReadyH.nil
  refine AllReadyH.cons (o:={ dst:=some 52,op:=Op.call { callee:=Callee.value (Operand.func 43),args:=#[Operand.tmp 50,Operand.const (Value.int IntKind.i64 1),Operand.tmp 51],argTypes:=#[26,3,3] },type:=26,pos:= "ref.go:222",after:=#[{ on:=6,ground:=Ground.data },{ on:=7,ground:=Ground.data }],guard:=none }) rfl (fun K hK=>?_) ?_
  ·skip
   refine step_callv6 rfl 43 (.func 43) #[.tmp 50,.const (.int .i64 1),.tmp 51] _ #[] rfl rfl #[.slice N2 G.NL c2,.int .i64 1,.int .i64 (pl:Int)] (by simp only [List.map_toArray,zzS,List.map_nil];rfl) (enters6 Try.func43 (by kernel_rfl) (by kernel_rfl)) ?_
   have hnt3:=noted6_any N2 G.NL c2 1 (nt.set 0 (G.at_:Int)) (pl:Int) w2.drew ((HN2.out.reads fun b hb=>hb.2).below (zzb _ _).drew) HWF.out.nl2 (by have:=HWF.out.nl.1;omega)
   refine hnt3.mono ?_
   rintro e w3 ⟨N3,c3,rfl,hb3,hn3⟩
   have hb23:Below w2.heap.size w2 w3:=((zzb _ _).drew).trans hb3
   have hb34:Below w3.heap.size w3 (w3.alloc (.cells #[.int .i64 (pl:Int),.slice N3 G.NL c3] 44)):=(zzb _ _).alloc (zzF _) _
   have HB3:=zzA hb23
   have HB34:=zzA hb34
   have HN3:=zzA hn3
   have hbk3:=HBK2.out.below hb23 HBK2.out.lt
   have HBK4:=zzA (hbk3.below hb34 hbk3.lt)
   have HOWN4:=zzA (own_below (own_below HOWN2.out hb23) hb34)
   have yb:w3.cell? ⟨G.wb,6,none⟩=some V:=hbk3.cell 6
   have yc:(w3.alloc (.cells #[.int .i64 (pl:Int),.slice N3 G.NL c3] 44)).cell? ⟨G.wb,6,none⟩=some V:=HBK4.out.cell 6
   clear hnt3 hb3 hn3 hb23 hb34 hbk3
   refine ⟨_,rfl,?_⟩
   refine hK.out _ _ ?_ (fun hHeld=>?_)
   ·exact trivial
   clear hK K hHeld
   (try simp only [Act.put,zzB,zzD,zzC])
   refine wpAnyH_ready (rs:=[4,9]) (by kernel_rfl) (by simp) ?_
   refine AllReadyH.cons (o:={ dst:=some 48,op:=Op.load 36 (Operand.tmp 47),type:=36,pos:= "ref.go:222",after:=#[{ on:=3,ground:=Ground.data }],guard:=none }) rfl (fun K hK=>?_) ?_
   ·skip
    go_simp
    refine hK.out _ _ ?_ (fun hHeld=>?_)
    ·exact trivial
    clear hK K hHeld
    (try simp only [Act.put,zzB,zzD,zzC])
    refine wpAnyH_ready (rs:=[9]) (by kernel_rfl) (by simp) ?_
    refine AllReadyH.cons (o:={ dst:=some 53,op:=Op.build 44 #[(0,Operand.tmp 49),(1,Operand.tmp 52)],type:=44,pos:= "ref.go:222",after:=#[{ on:=5,ground:=Ground.data },{ on:=8,ground:=Ground.data }],guard:=none }) rfl (fun K hK=>?_) ?_
    ·skip
     go_simp
     refine hK.out _ _ ?_ (fun hHeld=>?_)
     ·exact trivial
     clear hK K hHeld
     (try simp only [Act.put,zzB,zzD,zzC])
     refine wpAnyH_ready (rs:=[10]) (by kernel_rfl) (by simp) ?_
     refine AllReadyH.cons (o:={ dst:=some 54,op:=Op.buildSlice 36 1 #[(0,Operand.tmp 53)],type:=36,pos:= "ref.go:222",after:=#[{ on:=9,ground:=Ground.data }],guard:=none }) rfl (fun K hK=>?_) ?_
     ·skip
      go_simp
      refine hK.out _ _ ?_ (fun hHeld=>?_)
      ·exact trivial
      clear hK K hHeld
      (try simp only [Act.put,zzB,zzD,zzC])
      refine wpAnyH_ready (rs:=[11]) (by kernel_rfl) (by simp) ?_
      refine AllReadyH.cons (o:={ dst:=some 55,op:=Op.call { callee:=Callee.builtin Builtin.append,args:=#[Operand.tmp 48,Operand.tmp 54],argTypes:=#[36,36] },type:=36,pos:= "ref.go:222",after:=#[{ on:=4,ground:=Ground.data },{ on:=10,ground:=Ground.data },{ on:=8,ground:=Ground.chain }],guard:=none }) rfl (fun K hK=>?_) ?_
      ·skip
       obtain ⟨i1,hi1,hz10,hz11,hz12⟩:=info_parts info_parseR
       have hlen5:s.out.length≤65:=by have h1:=nodup_le6 65 (s.out.map (·.1)) HS.out.ends.1 (fun x hx=>by obtain ⟨p,hp,rfl⟩:=List.mem_map.1 hx;have:=HS.out.ends.2 p hp;omega);rwa [zzP] at h1
       refine step_append_lies _ rfl (.tmp 48) (.tmp 54) 36 rfl G.base 44 i1 (.agg #[.int .i64 0,.slice none 0 0]) 2 32 Try.underlying36 hi1 hz10 hz11 hz12 rfl (by decide) V s.out.length (outW6 ps) rfl HOWN4.out ⟨w3.heap.size,0,none⟩ 1 1 [.int .i64 (pl:Int),.slice N3 G.NL c3] rfl rfl (new_atT w3 44 [.int .i64 (pl:Int),.slice N3 G.NL c3]) (by intro u hu;simp only [zzN,List.not_mem_nil,or_false] at hu;rcases hu with rfl | rfl <;> rfl) (by decide) (by unfold maxLen;omega) (by omega) (zzU HC2.out.base (zzU HB3.out.size HB34.out.size)) _ rfl ?_
       intro g5 cap5 w5 hou5 hg5 hat5 hlt5
       have HAT:=zzA (show V.ownBlock=some g5∨(w3.alloc (.cells #[.int .i64 (pl:Int),.slice N3 G.NL c3] 44)).heap.size≤g5 from hat5.imp id fun h=>by omega)
       have HG5:=zzA hg5
       have HOU:=zzA hou5
       have hne5:=blk_apart HOWN4.out HBK4.out (by decide)
       have hbk5:=HBK4.out.kept (Kept.of_grown' hg5) (fun hm=>hne5 (by simpa [eq_comm] using hm))
       have HBK5:=zzA hbk5
       have yd:w5.cell? ⟨G.wb,6,none⟩=some V:=hbk5.cell 6
       have ye:=hbk5.frozen 6
       have yf:=hbk5.lt
       clear hou5 hg5 hat5 hne5 hbk5 hlen5
       refine hK.out _ _ ?_ (fun hHeld=>?_)
       ·exact trivial
       clear hK K hHeld
       (try simp only [Act.put,zzB,zzD,zzC])
       refine wpAnyH_ready (rs:=[12]) (by kernel_rfl) (by simp) ?_
       refine AllReadyH.cons (o:={ dst:=some 56,op:=Op.nilCheck (Operand.tmp 44),type:=0,pos:= "ref.go:222",after:=#[{ on:=0,ground:=Ground.data },{ on:=0,ground:=Ground.phase },{ on:=1,ground:=Ground.phase },{ on:=2,ground:=Ground.phase },{ on:=3,ground:=Ground.phase },{ on:=4,ground:=Ground.phase },{ on:=5,ground:=Ground.phase },{ on:=6,ground:=Ground.phase },{ on:=7,ground:=Ground.phase },{ on:=8,ground:=Ground.phase },{ on:=9,ground:=Ground.phase },{ on:=10,ground:=Ground.phase },{ on:=11,ground:=Ground.phase }],guard:=none }) rfl (fun K hK=>?_) ?_
       ·skip
        go_simp
        refine hK.out _ _ ?_ (fun hHeld=>?_)
        ·exact trivial
        clear hK K hHeld
        (try simp only [Act.put,zzB,zzD,zzC])
        refine wpAnyH_ready (rs:=[13]) (by kernel_rfl) (by simp) ?_
        refine AllReadyH.cons (o:={ dst:=some 57,op:=Op.fieldAddr 73 (Operand.tmp 56) 6,type:=0,pos:= "ref.go:222",after:=#[{ on:=12,ground:=Ground.data },{ on:=0,ground:=Ground.phase },{ on:=1,ground:=Ground.phase },{ on:=2,ground:=Ground.phase },{ on:=3,ground:=Ground.phase },{ on:=4,ground:=Ground.phase },{ on:=5,ground:=Ground.phase },{ on:=6,ground:=Ground.phase },{ on:=7,ground:=Ground.phase },{ on:=8,ground:=Ground.phase },{ on:=9,ground:=Ground.phase },{ on:=10,ground:=Ground.phase },{ on:=11,ground:=Ground.phase }],guard:=none }) rfl (fun K hK=>?_) ?_
        ·skip
         go_simp
         refine hK.out _ _ ?_ (fun hHeld=>?_)
         ·exact trivial
         clear hK K hHeld
         (try simp only [Act.put,zzB,zzD,zzC])
         refine wpAnyH_ready (rs:=[14]) (by kernel_rfl) (by simp) ?_
         refine AllReadyH.cons (o:={ dst:=none,op:=Op.store 36 (Operand.tmp 57) (Operand.tmp 55),type:=0,pos:= "ref.go:222",after:=#[{ on:=13,ground:=Ground.data },{ on:=11,ground:=Ground.data },{ on:=11,ground:=Ground.chain },{ on:=0,ground:=Ground.phase },{ on:=1,ground:=Ground.phase },{ on:=2,ground:=Ground.phase },{ on:=3,ground:=Ground.phase },{ on:=4,ground:=Ground.phase },{ on:=5,ground:=Ground.phase },{ on:=6,ground:=Ground.phase },{ on:=7,ground:=Ground.phase },{ on:=8,ground:=Ground.phase },{ on:=9,ground:=Ground.phase },{ on:=10,ground:=Ground.phase },{ on:=11,ground:=Ground.phase }],guard:=none }) rfl (fun K hK=>?_) ?_
         ·skip
          go_simp
          refine hK.out _ _ ?_ (fun hHeld=>?_)
          ·exact trivial
          clear hK K hHeld
          (try simp only [Act.put,zzB,zzD,zzC])
          refine wpAnyH_done (by kernel_rfl) ?_ _
          go_wp2_with fail
          refine bodyPost_ret (results_none rfl _ _ _) rfl ?_
          exact behind_fin hpl2 HWF.out HC.out HS.out HEW.out HSS.out HPS.out HRD.out HF1.out HF2.out HC2.out HB3.out HB34.out HN3.out HBK4.out HOWN4.out HG5.out HAT.out HBK5.out HOU.out HLEN.out HANY.out HB2.out
         exact AllReadyH.nil
        exact AllReadyH.nil
       exact AllReadyH.nil
      exact AllReadyH.nil
     exact AllReadyH.nil
    exact AllReadyH.nil
   refine AllReadyH.cons (o:={ dst:=some 53,op:=Op.build 44 #[(0,Operand.tmp 49),(1,Operand.tmp 52)],type:=44,pos:= "ref.go:222",after:=#[{ on:=5,ground:=Ground.data },{ on:=8,ground:=Ground.data }],guard:=none }) rfl (fun K hK=>?_) ?_
   ·skip
    go_simp
    refine hK.out _ _ ?_ (fun hHeld=>?_)
    ·exact trivial
    clear hK K hHeld
    (try simp only [Act.put,zzB,zzD,zzC])
    refine wpAnyH_ready (rs:=[4,10]) (by kernel_rfl) (by simp) ?_
    refine AllReadyH.cons (o:={ dst:=some 48,op:=Op.load 36 (Operand.tmp 47),type:=36,pos:= "ref.go:222",after:=#[{ on:=3,ground:=Ground.data }],guard:=none }) rfl (fun K hK=>?_) ?_
    ·skip
     go_simp
     refine hK.out _ _ ?_ (fun hHeld=>?_)
     ·exact trivial
     clear hK K hHeld
     (try simp only [Act.put,zzB,zzD,zzC])
     refine wpAnyH_ready (rs:=[10]) (by kernel_rfl) (by simp) ?_
     refine AllReadyH.cons (o:={ dst:=some 54,op:=Op.buildSlice 36 1 #[(0,Operand.tmp 53)],type:=36,pos:= "ref.go:222",after:=#[{ on:=9,ground:=Ground.data }],guard:=none }) rfl (fun K hK=>?_) ?_
     ·skip
      go_simp
      refine hK.out _ _ ?_ (fun hHeld=>?_)
      ·exact trivial
      clear hK K hHeld
      (try simp only [Act.put,zzB,zzD,zzC])
      refine wpAnyH_ready (rs:=[11]) (by kernel_rfl) (by simp) ?_
      refine AllReadyH.cons (o:={ dst:=some 55,op:=Op.call { callee:=Callee.builtin Builtin.append,args:=#[Operand.tmp 48,Operand.tmp 54],argTypes:=#[36,36] },type:=36,pos:= "ref.go:222",after:=#[{ on:=4,ground:=Ground.data },{ on:=10,ground:=Ground.data },{ on:=8,ground:=Ground.chain }],guard:=none }) rfl (fun K hK=>?_) ?_
      ·skip
       obtain ⟨i1,hi1,hz10,hz11,hz12⟩:=info_parts info_parseR
       have hlen5:s.out.length≤65:=by have h1:=nodup_le6 65 (s.out.map (·.1)) HS.out.ends.1 (fun x hx=>by obtain ⟨p,hp,rfl⟩:=List.mem_map.1 hx;have:=HS.out.ends.2 p hp;omega);rwa [zzP] at h1
       refine step_append_lies _ rfl (.tmp 48) (.tmp 54) 36 rfl G.base 44 i1 (.agg #[.int .i64 0,.slice none 0 0]) 2 32 Try.underlying36 hi1 hz10 hz11 hz12 rfl (by decide) V s.out.length (outW6 ps) rfl HOWN4.out ⟨w3.heap.size,0,none⟩ 1 1 [.int .i64 (pl:Int),.slice N3 G.NL c3] rfl rfl (new_atT w3 44 [.int .i64 (pl:Int),.slice N3 G.NL c3]) (by intro u hu;simp only [zzN,List.not_mem_nil,or_false] at hu;rcases hu with rfl | rfl <;> rfl) (by decide) (by unfold maxLen;omega) (by omega) (zzU HC2.out.base (zzU HB3.out.size HB34.out.size)) _ rfl ?_
       intro g5 cap5 w5 hou5 hg5 hat5 hlt5
       have HAT:=zzA (show V.ownBlock=some g5∨(w3.alloc (.cells #[.int .i64 (pl:Int),.slice N3 G.NL c3] 44)).heap.size≤g5 from hat5.imp id fun h=>by omega)
       have HG5:=zzA hg5
       have HOU:=zzA hou5
       have hne5:=blk_apart HOWN4.out HBK4.out (by decide)
       have hbk5:=HBK4.out.kept (Kept.of_grown' hg5) (fun hm=>hne5 (by simpa [eq_comm] using hm))
       have HBK5:=zzA hbk5
       have yd:w5.cell? ⟨G.wb,6,none⟩=some V:=hbk5.cell 6
       have ye:=hbk5.frozen 6
       have yf:=hbk5.lt
       clear hou5 hg5 hat5 hne5 hbk5 hlen5
       refine hK.out _ _ ?_ (fun hHeld=>?_)
       ·exact trivial
       clear hK K hHeld
       (try simp only [Act.put,zzB,zzD,zzC])
       refine wpAnyH_ready (rs:=[12]) (by kernel_rfl) (by simp) ?_
       refine AllReadyH.cons (o:={ dst:=some 56,op:=Op.nilCheck (Operand.tmp 44),type:=0,pos:= "ref.go:222",after:=#[{ on:=0,ground:=Ground.data },{ on:=0,ground:=Ground.phase },{ on:=1,ground:=Ground.phase },{ on:=2,ground:=Ground.phase },{ on:=3,ground:=Ground.phase },{ on:=4,ground:=Ground.phase },{ on:=5,ground:=Ground.phase },{ on:=6,ground:=Ground.phase },{ on:=7,ground:=Ground.phase },{ on:=8,ground:=Ground.phase },{ on:=9,ground:=Ground.phase },{ on:=10,ground:=Ground.phase },{ on:=11,ground:=Ground.phase }],guard:=none }) rfl (fun K hK=>?_) ?_
       ·skip
        go_simp
        refine hK.out _ _ ?_ (fun hHeld=>?_)
        ·exact trivial
        clear hK K hHeld
        (try simp only [Act.put,zzB,zzD,zzC])
        refine wpAnyH_ready (rs:=[13]) (by kernel_rfl) (by simp) ?_
        refine AllReadyH.cons (o:={ dst:=some 57,op:=Op.fieldAddr 73 (Operand.tmp 56) 6,type:=0,pos:= "ref.go:222",after:=#[{ on:=12,ground:=Ground.data },{ on:=0,ground:=Ground.phase },{ on:=1,ground:=Ground.phase },{ on:=2,ground:=Ground.phase },{ on:=3,ground:=Ground.phase },{ on:=4,ground:=Ground.phase },{ on:=5,ground:=Ground.phase },{ on:=6,ground:=Ground.phase },{ on:=7,ground:=Ground.phase },{ on:=8,ground:=Ground.phase },{ on:=9,ground:=Ground.phase },{ on:=10,ground:=Ground.phase },{ on:=11,ground:=Ground.phase }],guard:=none }) rfl (fun K hK=>?_) ?_
        ·skip
         go_simp
         refine hK.out _ _ ?_ (fun hHeld=>?_)
         ·exact trivial
         clear hK K hHeld
         (try simp only [Act.put,zzB,zzD,zzC])
         refine wpAnyH_ready (rs:=[14]) (by kernel_rfl) (by simp) ?_
         refine AllReadyH.cons (o:={ dst:=none,op:=Op.store 36 (Operand.tmp 57) (Operand.tmp 55),type:=0,pos:= "ref.go:222",after:=#[{ on:=13,ground:=Ground.data },{ on:=11,ground:=Ground.data },{ on:=11,ground:=Ground.chain },{ on:=0,ground:=Ground.phase },{ on:=1,ground:=Ground.phase },{ on:=2,ground:=Ground.phase },{ on:=3,ground:=Ground.phase },{ on:=4,ground:=Ground.phase },{ on:=5,ground:=Ground.phase },{ on:=6,ground:=Ground.phase },{ on:=7,ground:=Ground.phase },{ on:=8,ground:=Ground.phase },{ on:=9,ground:=Ground.phase },{ on:=10,ground:=Ground.phase },{ on:=11,ground:=Ground.phase }],guard:=none }) rfl (fun K hK=>?_) ?_
         ·skip
          go_simp
          refine hK.out _ _ ?_ (fun hHeld=>?_)
          ·exact trivial
          clear hK K hHeld
          (try simp only [Act.put,zzB,zzD,zzC])
          refine wpAnyH_done (by kernel_rfl) ?_ _
          go_wp2_with fail
          refine bodyPost_ret (results_none rfl _ _ _) rfl ?_
          exact behind_fin hpl2 HWF.out HC.out HS.out HEW.out HSS.out HPS.out HRD.out HF1.out HF2.out HC2.out HB3.out HB34.out HN3.out HBK4.out HOWN4.out HG5.out HAT.out HBK5.out HOU.out HLEN.out HANY.out HB2.out
         exact AllReadyH.nil
        exact AllReadyH.nil
       exact AllReadyH.nil
      exact AllReadyH.nil
     exact AllReadyH.nil
    refine AllReadyH.cons (o:={ dst:=some 54,op:=Op.buildSlice 36 1 #[(0,Operand.tmp 53)],type:=36,pos:= "ref.go:222",after:=#[{ on:=9,ground:=Ground.data }],guard:=none }) rfl (fun K hK=>?_) ?_
    ·skip
     go_simp
     refine hK.out _ _ ?_ (fun hHeld=>?_)
     ·exact trivial
     clear hK K hHeld
     (try simp only [Act.put,zzB,zzD,zzC])
     refine wpAnyH_ready (rs:=[4]) (by kernel_rfl) (by simp) ?_
     refine AllReadyH.cons (o:={ dst:=some 48,op:=Op.load 36 (Operand.tmp 47),type:=36,pos:= "ref.go:222",after:=#[{ on:=3,ground:=Ground.data }],guard:=none }) rfl (fun K hK=>?_) ?_
     ·skip
      go_simp
      refine hK.out _ _ ?_ (fun hHeld=>?_)
      ·exact trivial
      clear hK K hHeld
      (try simp only [Act.put,zzB,zzD,zzC])
      refine wpAnyH_ready (rs:=[11]) (by kernel_rfl) (by simp) ?_
      refine AllReadyH.cons (o:={ dst:=some 55,op:=Op.call { callee:=Callee.builtin Builtin.append,args:=#[Operand.tmp 48,Operand.tmp 54],argTypes:=#[36,36] },type:=36,pos:= "ref.go:222",after:=#[{ on:=4,ground:=Ground.data },{ on:=10,ground:=Ground.data },{ on:=8,ground:=Ground.chain }],guard:=none }) rfl (fun K hK=>?_) ?_
      ·skip
       obtain ⟨i1,hi1,hz10,hz11,hz12⟩:=info_parts info_parseR
       have hlen5:s.out.length≤65:=by have h1:=nodup_le6 65 (s.out.map (·.1)) HS.out.ends.1 (fun x hx=>by obtain ⟨p,hp,rfl⟩:=List.mem_map.1 hx;have:=HS.out.ends.2 p hp;omega);rwa [zzP] at h1
       refine step_append_lies _ rfl (.tmp 48) (.tmp 54) 36 rfl G.base 44 i1 (.agg #[.int .i64 0,.slice none 0 0]) 2 32 Try.underlying36 hi1 hz10 hz11 hz12 rfl (by decide) V s.out.length (outW6 ps) rfl HOWN4.out ⟨w3.heap.size,0,none⟩ 1 1 [.int .i64 (pl:Int),.slice N3 G.NL c3] rfl rfl (new_atT w3 44 [.int .i64 (pl:Int),.slice N3 G.NL c3]) (by intro u hu;simp only [zzN,List.not_mem_nil,or_false] at hu;rcases hu with rfl | rfl <;> rfl) (by decide) (by unfold maxLen;omega) (by omega) (zzU HC2.out.base (zzU HB3.out.size HB34.out.size)) _ rfl ?_
       intro g5 cap5 w5 hou5 hg5 hat5 hlt5
       have HAT:=zzA (show V.ownBlock=some g5∨(w3.alloc (.cells #[.int .i64 (pl:Int),.slice N3 G.NL c3] 44)).heap.size≤g5 from hat5.imp id fun h=>by omega)
       have HG5:=zzA hg5
       have HOU:=zzA hou5
       have hne5:=blk_apart HOWN4.out HBK4.out (by decide)
       have hbk5:=HBK4.out.kept (Kept.of_grown' hg5) (fun hm=>hne5 (by simpa [eq_comm] using hm))
       have HBK5:=zzA hbk5
       have yd:w5.cell? ⟨G.wb,6,none⟩=some V:=hbk5.cell 6
       have ye:=hbk5.frozen 6
       have yf:=hbk5.lt
       clear hou5 hg5 hat5 hne5 hbk5 hlen5
       refine hK.out _ _ ?_ (fun hHeld=>?_)
       ·exact trivial
       clear hK K hHeld
       (try simp only [Act.put,zzB,zzD,zzC])
       refine wpAnyH_ready (rs:=[12]) (by kernel_rfl) (by simp) ?_
       refine AllReadyH.cons (o:={ dst:=some 56,op:=Op.nilCheck (Operand.tmp 44),type:=0,pos:= "ref.go:222",after:=#[{ on:=0,ground:=Ground.data },{ on:=0,ground:=Ground.phase },{ on:=1,ground:=Ground.phase },{ on:=2,ground:=Ground.phase },{ on:=3,ground:=Ground.phase },{ on:=4,ground:=Ground.phase },{ on:=5,ground:=Ground.phase },{ on:=6,ground:=Ground.phase },{ on:=7,ground:=Ground.phase },{ on:=8,ground:=Ground.phase },{ on:=9,ground:=Ground.phase },{ on:=10,ground:=Ground.phase },{ on:=11,ground:=Ground.phase }],guard:=none }) rfl (fun K hK=>?_) ?_
       ·skip
        go_simp
        refine hK.out _ _ ?_ (fun hHeld=>?_)
        ·exact trivial
        clear hK K hHeld
        (try simp only [Act.put,zzB,zzD,zzC])
        refine wpAnyH_ready (rs:=[13]) (by kernel_rfl) (by simp) ?_
        refine AllReadyH.cons (o:={ dst:=some 57,op:=Op.fieldAddr 73 (Operand.tmp 56) 6,type:=0,pos:= "ref.go:222",after:=#[{ on:=12,ground:=Ground.data },{ on:=0,ground:=Ground.phase },{ on:=1,ground:=Ground.phase },{ on:=2,ground:=Ground.phase },{ on:=3,ground:=Ground.phase },{ on:=4,ground:=Ground.phase },{ on:=5,ground:=Ground.phase },{ on:=6,ground:=Ground.phase },{ on:=7,ground:=Ground.phase },{ on:=8,ground:=Ground.phase },{ on:=9,ground:=Ground.phase },{ on:=10,ground:=Ground.phase },{ on:=11,ground:=Ground.phase }],guard:=none }) rfl (fun K hK=>?_) ?_
        ·skip
         go_simp
         refine hK.out _ _ ?_ (fun hHeld=>?_)
         ·exact trivial
         clear hK K hHeld
         (try simp only [Act.put,zzB,zzD,zzC])
         refine wpAnyH_ready (rs:=[14]) (by kernel_rfl) (by simp) ?_
         refine AllReadyH.cons (o:={ dst:=none,op:=Op.store 36 (Operand.tmp 57) (Operand.tmp 55),type:=0,pos:= "ref.go:222",after:=#[{ on:=13,ground:=Ground.data },{ on:=11,ground:=Ground.data },{ on:=11,ground:=Ground.chain },{ on:=0,ground:=Ground.phase },{ on:=1,ground:=Ground.phase },{ on:=2,ground:=Ground.phase },{ on:=3,ground:=Ground.phase },{ on:=4,ground:=Ground.phase },{ on:=5,ground:=Ground.phase },{ on:=6,ground:=Ground.phase },{ on:=7,ground:=Ground.phase },{ on:=8,ground:=Ground.phase },{ on:=9,ground:=Ground.phase },{ on:=10,ground:=Ground.phase },{ on:=11,ground:=Ground.phase }],guard:=none }) rfl (fun K hK=>?_) ?_
         ·skip
          go_simp
          refine hK.out _ _ ?_ (fun hHeld=>?_)
          ·exact trivial
          clear hK K hHeld
          (try simp only [Act.put,zzB,zzD,zzC])
          refine wpAnyH_done (by kernel_rfl) ?_ _
          go_wp2_with fail
          refine bodyPost_ret (results_none rfl _ _ _) rfl ?_
          exact behind_fin hpl2 HWF.out HC.out HS.out HEW.out HSS.out HPS.out HRD.out HF1.out HF2.out HC2.out HB3.out HB34.out HN3.out HBK4.out HOWN4.out HG5.out HAT.out HBK5.out HOU.out HLEN.out HANY.out HB2.out
         exact AllReadyH.nil
        exact AllReadyH.nil
       exact AllReadyH.nil
      exact AllReadyH.nil
     exact AllReadyH.nil
    exact AllReadyH.nil
   exact AllReadyH.nil
  exact AllReadyH.nil
end Go.Proofs.Ytkhkllpdhnmhkaa
