/- heronref06's walker.behind. -/
import Derived.Test.YtkhkllpdhnmhkaaP18
namespace Go.Proofs.Ytkhkllpdhnmhkaa
open Go.RowKit
theorem nodup_le6:∀ (N:Nat) (l:List Nat),l.Nodup→(∀ i∈l,i < N)→l.length≤N
 | 0,l,_,h=>by
  match l with
  | []=>exact zzF _
  | a :: _=>exact absurd (h a zzH) (by omega)
 | N+1,l,hn,h=>by
  have h1:=nodup_le6 N (l.erase N) (hn.erase N) (fun i hi=>by
   have h2:=(hn.mem_erase_iff).1 hi
   have h3:=h i h2.2
   have h4:=h2.1
   omega)
  have h2:=List.length_erase (a:=N) (l:=l)
  split at h2 <;> omega
theorem Wr.wf.all_few {G:Wr} (h:G.wf):G.root.all.length≤G.L.length:=by
 have hd:(G.root.all.map Mean.Un.ad).Nodup:=h.ads
 have hs:(G.root.all.map Mean.Un.ad) ⊆ List.range G.L.length:=fun x hx=>by
  obtain ⟨m,hm,rfl⟩:=List.mem_map.1 hx
  obtain ⟨⟨v,hv,-⟩,-⟩:=h.rep m hm
  exact List.mem_range.2 (zzK.1 hv).1
 have:=nodup_le6 G.L.length _ hd (fun i hi=>List.mem_range.1 (hs hi))
 rwa [zzP] at this
theorem Wr.wf.nl2 {G:Wr} (h:G.wf):G.NL≤1099511627:=h.nl.2
theorem Wr.cst.fresh {G:Wr} {w w':World} {s:Mean.St} {size n c:Nat} {A:Option Addr} {xs:List Value} (hc:G.cst w) (hs:G.st w s) (hb:Below w.heap.size w w') (h:RdA w' (fun b=>w.heap.size≤b∧b < w'.heap.size) size A n c xs):RdA w' (G.still w') size A n c xs :=
 h.mono fun b ⟨h1,h2⟩=>⟨h2,fun hm=>by
  rcases mem_mut6.1 hm with e | e
  ·have:=hc.lt b e;omega
  ·obtain ⟨V,ps,hbk,ho,-⟩:=hs.out
   unfold outB6 at e
   rw [hb.cell (p:=⟨G.wb,6,none⟩) hc.wb,show w.cell? ⟨G.wb,6,none⟩=some V from hbk.cell 6] at e
   have:=(ho.lt b e).2
   omega⟩
theorem Wr.st.wcell {G:Wr} {w:World} {s:Mean.St} (h:G.st w s) (q:Nat) (hq:q < 6):w.cell? ⟨G.wb,q,none⟩=(G.vals .nilIface)[q]?:=by
 obtain ⟨V,ps,hb,-⟩:=h.out
 rw [hb.cell]
 match q,hq with
 | 0,_=>rfl
 | 1,_=>rfl
 | 2,_=>rfl
 | 3,_=>rfl
 | 4,_=>rfl
 | 5,_=>rfl
theorem Wr.cst.la {G:Wr} {w:World} (hc:G.cst w) (h:0 < G.L.length):∃ b o,G.LA=some ⟨b,o,none⟩:=by
 obtain ⟨b,o,e,-⟩:=hc.nodes.2.2.2.2 h
 exact ⟨b,o,e⟩
theorem Wr.cst.cells {G:Wr} {w:World} (hc:G.cst w) {b o:Nat} (hla:G.LA=some ⟨b,o,none⟩) {j:Nat} {v:NdV} (hv:G.L[j]?=some v):∀ q x,q < 8→(ndVals v)[q]?=some x→w.cell? ⟨b,o+j*8+q,none⟩=some x:=fun q x hq hx=>by
 obtain ⟨b',o',e,-,h⟩:=hc.nodes.2.2.2.2 (by have:=(zzK.1 hv).1;omega)
 rw [hla] at e
 simp only [zzd,Addr.mk.injEq,and_true] at e
 obtain ⟨rfl,rfl⟩:=e
 rw [Nat.add_assoc]
 exact h _ _ ((ndRow_get G.L j q v hv hq).trans hx)
theorem Wr.st.wcells {G:Wr} {w:World} {s:Mean.St} (h:G.st w s):w.cell? ⟨G.wb,0,none⟩=some (.pointer (some ⟨G.tb,0,none⟩))∧w.cell? ⟨G.wb,1,none⟩=some (.slice G.At G.nt G.ct)∧w.cell? ⟨G.wb,2,none⟩=some (.int .i64 (G.at_:Int))∧w.cell? ⟨G.wb,3,none⟩=some (.slice G.BA G.gb.length G.bc)∧w.cell? ⟨G.wb,4,none⟩=some (.slice G.DA G.gd.length G.dc)∧w.cell? ⟨G.wb,5,none⟩=some (.slice (some ⟨G.eb,0,none⟩) (G.nt+1) (G.nt+1)):=⟨h.wcell 0 (by decide),h.wcell 1 (by decide),h.wcell 2 (by decide),h.wcell 3 (by decide),h.wcell 4 (by decide),h.wcell 5 (by decide)⟩
theorem Wr.cst.cells8 {G:Wr} {w:World} (hc:G.cst w) {b o:Nat} (hla:G.LA=some ⟨b,o,none⟩) {j:Nat} {k a ix:Int} {ra:Option Addr} {rc:Nat} {rng:List (Int × Int)} {sa:Option Addr} {sc:Nat} {subs:List Nat} {lz:Bool} {up nth:Int} (hv:G.L[j]?=some ⟨k,a,ix,ra,rc,rng,sa,sc,subs,lz,up,nth⟩):w.cell? ⟨b,o+j*8,none⟩=some (.int .i64 k)∧w.cell? ⟨b,o+j*8+1,none⟩=some (.int .i64 a)∧w.cell? ⟨b,o+j*8+2,none⟩=some (.int .i64 ix)∧w.cell? ⟨b,o+j*8+3,none⟩=some (.slice ra rng.length rc)∧w.cell? ⟨b,o+j*8+4,none⟩=some (.slice sa subs.length sc)∧w.cell? ⟨b,o+j*8+5,none⟩=some (.bool lz)∧w.cell? ⟨b,o+j*8+6,none⟩=some (.int .i64 up)∧w.cell? ⟨b,o+j*8+7,none⟩=some (.int .i64 nth):=⟨hc.cells hla hv 0 _ (by decide) rfl,hc.cells hla hv 1 _ (by decide) rfl,hc.cells hla hv 2 _ (by decide) rfl,hc.cells hla hv 3 _ (by decide) rfl,hc.cells hla hv 4 _ (by decide) rfl,hc.cells hla hv 5 _ (by decide) rfl,hc.cells hla hv 6 _ (by decide) rfl,hc.cells hla hv 7 _ (by decide) rfl⟩
theorem Wr.cst.sub {G:Wr} {w:World} (hc:G.cst w) {v:NdV} (hv:v∈G.L) {i x:Nat} (hx:v.subs[i]?=some x):∃ b o,v.sa=some ⟨b,o,none⟩∧w.cell? ⟨b,o+i,none⟩=some (.int .i64 (x:Int)):=by
 obtain ⟨b,o,e,-,h⟩:=(hc.lists v hv).2.2.2.2.2 (by have:=(zzK.1 hx).1;omega)
 exact ⟨b,o,e,h i _ (by unfold numsR;rw [zza,hx];rfl)⟩
set_option maxRecDepth 100000 in
set_option maxHeartbeats 4000000 in
theorem behind_next (G:Wr) (hwf:G.wf) (s s':Mean.St) (n p:Mean.Un) (Kp:Mean.Kt) (i pl:Nat) (nt:List Int) (hp:Mean.InT G.root p Kp) (hi:p.subs[i]?=some n) (hkind:p.kind=4) (sn:Mean.Un) (hsn:p.subs[i+1]?=some sn) (h:G.does s (.beg sn pl nt (.row (p.subs.drop (i+1+1)) Kp)) s') (hpl:pl≤G.nt) (hlen:nt.length=G.NL) (w:World) (N:Option Addr) (c:Nat) (hc:G.cst w) (hs:G.st w s) (hr:RdA w (G.still w) 1 N G.NL c (nt.map (Value.int .i64))) :
  Calls Try.prog 39 #[.pointer (some ⟨G.wb,0,none⟩),.int .i64 (n.ad:Int),.int .i64 (pl:Int),.slice N G.NL c] w fun e w'=>e=.returned (.tuple #[])∧G.fr w w'∧G.st w' s':=by
 obtain ⟨hnl,un,hun,hup,hnth⟩:=(hwf.rep p (Mean.inT_all hp)).kids i n hi
 obtain ⟨⟨v,hv,hvk,hva,hvx,hvr,hvs,hvl⟩,-⟩:=hwf.rep p (Mean.inT_all hp)
 obtain ⟨kk,va,vx,ra,rc,rng,sa,sc,vsubs,lz,vup,vnth⟩:=v
 simp only [] at hvk hva hvx hvr hvs hvl
 have hpl2:=(zzK.1 hv).1
 have hnl2:=(zzK.1 hun).1
 obtain ⟨lb,lo,hla⟩:=hc.la (by omega)
 have HLA:=zzA hla
 obtain rfl:kk=4:=by rw [hvk,hkind];rfl
 have n6:w.cell? ⟨lb,lo+n.ad*8+6,none⟩=some (.int .i64 (p.ad:Int)):=by rw [←hup];exact hc.cells hla hun 6 _ (by decide) rfl
 obtain ⟨p0,p1,p2,p3,p4,p5,p6,p7⟩:=hc.cells8 hla hv
 obtain ⟨c0,c1,c2,c3,c4,c5⟩:=(hs).wcells
 have ct:w.cell? ⟨G.tb,0,none⟩=some (.slice (some ⟨lb,lo,none⟩) G.L.length G.lc):=by rw [←HLA.out];exact (hc).tree.2.cell 0
 have hb1:Below w.heap.size w (w.alloc (.cells #[.int .i64 (4),.int .i64 va,.int .i64 vx,.slice ra rng.length rc,.slice sa vsubs.length sc,.bool lz,.int .i64 vup,.int .i64 vnth] 87)):=(zzb _ _).alloc (zzF _) _
 have hbx:=Blk.new w 87 [.int .i64 (4),.int .i64 va,.int .i64 vx,.slice ra rng.length rc,.slice sa vsubs.length sc,.bool lz,.int .i64 vup,.int .i64 vnth]
 have hc1:=hc.fr (hc.below hb1)
 have hs1:=hs.below hc hb1
 have HC1:=zzA hc1
 have HS1:=zzA hs1
 have HF1:=zzA (hc.below hb1)
 have HR1:=zzA (hr.fr6 (hc.below hb1))
 have n7:(w.alloc (.cells #[.int .i64 (4),.int .i64 va,.int .i64 vx,.slice ra rng.length rc,.slice sa vsubs.length sc,.bool lz,.int .i64 vup,.int .i64 vnth] 87)).cell? ⟨lb,lo+n.ad*8+7,none⟩=some (.int .i64 (i:Int)):=by rw [←hnth];exact hc1.cells hla hun 7 _ (by decide) rfl
 obtain ⟨d0,d1,d2,d3,d4,d5⟩:=(hs1).wcells
 have dt:(w.alloc (.cells #[.int .i64 (4),.int .i64 va,.int .i64 vx,.slice ra rng.length rc,.slice sa vsubs.length sc,.bool lz,.int .i64 vup,.int .i64 vnth] 87)).cell? ⟨G.tb,0,none⟩=some (.slice (some ⟨lb,lo,none⟩) G.L.length G.lc):=by rw [←HLA.out];exact (hc1).tree.2.cell 0
 obtain ⟨x0,x1,x2,x3,x4,x5,x6,x7⟩:=bc8 (hbx)
 have hni:(n.ad:Int) < (G.L.length:Int):=by omega
 have hpi:(p.ad:Int) < (G.L.length:Int):=by omega
 have hp0:¬((p.ad:Int) < 0):=by omega
 have hfew:=hwf.few
 have hin:i < p.subs.length:=(zzK.1 hi).1
 have hvlen:vsubs.length=p.subs.length:=by rw [hvs,zzP]
 have hplen:p.subs.length≤1099511627776:=by
  have h1:=(hc.lists _ (zzL hv)).2.2.1
  have h2:=mem_few G.root p (Mean.inT_all hp)
  have h3:=hwf.all_few
  omega
 have HWF:=zzA hwf
 have HV:=zzA hv
 have HVS:=zzA hvs
 have HVX:=zzA hvx
 have HP:=zzA hp
 have HH:=zzA h
 have HPL:=zzA hpl
 have HLEN:=zzA hlen
 have HVL:=zzA hvlen
 have hvi:i+1≤vsubs.length:=by omega
 have hvl2:vsubs.length≤1099511627776:=by omega
 have hsv:vsubs[i+1]?=some sn.ad:=by rw [hvs,zza,hsn];rfl
 obtain ⟨sb,so,hsa,hsc⟩:=hc1.sub (zzL hv) hsv
 simp only [] at hsa
 subst hsa
 have hil:i+1 < vsubs.length:=(zzK.1 hsv).1
 have hil2:(i:Int)+1 < (vsubs.length:Int):=by omega
 have hsc2:(w.alloc (.cells #[.int .i64 (4),.int .i64 va,.int .i64 vx,.slice ra rng.length rc,.slice (some ⟨sb,so,none⟩) vsubs.length sc,.bool lz,.int .i64 vup,.int .i64 vnth] 87)).cell? ⟨sb,so+(i+1),none⟩=some (.int .i64 (sn.ad:Int)):=hsc
 have hIN:Mean.InT G.root sn (.row (p.subs.drop (i+1+1)) Kp):=by
  have:=inT_at hp hsn
  rwa [kidAt,if_pos hkind] at this
 have HIN:=zzA hIN
 clear hsn hsv hIN hsc
 clear hi hb1 hbx hc1 hs1 hc hs hr hla hup hnth hvk hva hvx hvr hvs hvl hv hun hwf hp h hlen hvlen hplen hin hnl
 go_enter Try.func39,Try.ntmps39
 go_wp2_with fail
 refine (HH.out HIN.out HPL.out HLEN.out _ _ _ HC1.out HS1.out HR1.out).mono ?_
 rintro e w9 ⟨rfl,hf9,hs9⟩
 simp only []
 go_wp2_with fail
 go_end0
 exact ⟨rfl,HF1.out.trans hf9,hs9⟩
set_option maxRecDepth 100000 in
set_option maxHeartbeats 4000000 in
theorem behind_last (G:Wr) (hwf:G.wf) (s s':Mean.St) (n p:Mean.Un) (Kp:Mean.Kt) (i pl:Nat) (nt:List Int) (hp:Mean.InT G.root p Kp) (hi:p.subs[i]?=some n) (hkind:p.kind=4) (hsn:¬i+1 < p.subs.length) (h:G.does s (.go Kp pl nt) s') (hpl:pl≤G.nt) (hlen:nt.length=G.NL) (w:World) (N:Option Addr) (c:Nat) (hc:G.cst w) (hs:G.st w s) (hr:RdA w (G.still w) 1 N G.NL c (nt.map (Value.int .i64))) :
  Calls Try.prog 39 #[.pointer (some ⟨G.wb,0,none⟩),.int .i64 (n.ad:Int),.int .i64 (pl:Int),.slice N G.NL c] w fun e w'=>e=.returned (.tuple #[])∧G.fr w w'∧G.st w' s':=by
 obtain ⟨hnl,un,hun,hup,hnth⟩:=(hwf.rep p (Mean.inT_all hp)).kids i n hi
 obtain ⟨⟨v,hv,hvk,hva,hvx,hvr,hvs,hvl⟩,-⟩:=hwf.rep p (Mean.inT_all hp)
 obtain ⟨kk,va,vx,ra,rc,rng,sa,sc,vsubs,lz,vup,vnth⟩:=v
 simp only [] at hvk hva hvx hvr hvs hvl
 have hpl2:=(zzK.1 hv).1
 have hnl2:=(zzK.1 hun).1
 obtain ⟨lb,lo,hla⟩:=hc.la (by omega)
 have HLA:=zzA hla
 obtain rfl:kk=4:=by rw [hvk,hkind];rfl
 have n6:w.cell? ⟨lb,lo+n.ad*8+6,none⟩=some (.int .i64 (p.ad:Int)):=by rw [←hup];exact hc.cells hla hun 6 _ (by decide) rfl
 obtain ⟨p0,p1,p2,p3,p4,p5,p6,p7⟩:=hc.cells8 hla hv
 obtain ⟨c0,c1,c2,c3,c4,c5⟩:=(hs).wcells
 have ct:w.cell? ⟨G.tb,0,none⟩=some (.slice (some ⟨lb,lo,none⟩) G.L.length G.lc):=by rw [←HLA.out];exact (hc).tree.2.cell 0
 have hb1:Below w.heap.size w (w.alloc (.cells #[.int .i64 (4),.int .i64 va,.int .i64 vx,.slice ra rng.length rc,.slice sa vsubs.length sc,.bool lz,.int .i64 vup,.int .i64 vnth] 87)):=(zzb _ _).alloc (zzF _) _
 have hbx:=Blk.new w 87 [.int .i64 (4),.int .i64 va,.int .i64 vx,.slice ra rng.length rc,.slice sa vsubs.length sc,.bool lz,.int .i64 vup,.int .i64 vnth]
 have hc1:=hc.fr (hc.below hb1)
 have hs1:=hs.below hc hb1
 have HC1:=zzA hc1
 have HS1:=zzA hs1
 have HF1:=zzA (hc.below hb1)
 have HR1:=zzA (hr.fr6 (hc.below hb1))
 have n7:(w.alloc (.cells #[.int .i64 (4),.int .i64 va,.int .i64 vx,.slice ra rng.length rc,.slice sa vsubs.length sc,.bool lz,.int .i64 vup,.int .i64 vnth] 87)).cell? ⟨lb,lo+n.ad*8+7,none⟩=some (.int .i64 (i:Int)):=by rw [←hnth];exact hc1.cells hla hun 7 _ (by decide) rfl
 obtain ⟨d0,d1,d2,d3,d4,d5⟩:=(hs1).wcells
 have dt:(w.alloc (.cells #[.int .i64 (4),.int .i64 va,.int .i64 vx,.slice ra rng.length rc,.slice sa vsubs.length sc,.bool lz,.int .i64 vup,.int .i64 vnth] 87)).cell? ⟨G.tb,0,none⟩=some (.slice (some ⟨lb,lo,none⟩) G.L.length G.lc):=by rw [←HLA.out];exact (hc1).tree.2.cell 0
 obtain ⟨x0,x1,x2,x3,x4,x5,x6,x7⟩:=bc8 (hbx)
 have hni:(n.ad:Int) < (G.L.length:Int):=by omega
 have hpi:(p.ad:Int) < (G.L.length:Int):=by omega
 have hp0:¬((p.ad:Int) < 0):=by omega
 have hfew:=hwf.few
 have hin:i < p.subs.length:=(zzK.1 hi).1
 have hvlen:vsubs.length=p.subs.length:=by rw [hvs,zzP]
 have hplen:p.subs.length≤1099511627776:=by
  have h1:=(hc.lists _ (zzL hv)).2.2.1
  have h2:=mem_few G.root p (Mean.inT_all hp)
  have h3:=hwf.all_few
  omega
 have HWF:=zzA hwf
 have HV:=zzA hv
 have HVS:=zzA hvs
 have HVX:=zzA hvx
 have HP:=zzA hp
 have HH:=zzA h
 have HPL:=zzA hpl
 have HLEN:=zzA hlen
 have HVL:=zzA hvlen
 have hvi:i+1≤vsubs.length:=by omega
 have hvl2:vsubs.length≤1099511627776:=by omega
 have hil2:¬((i:Int)+1 < (vsubs.length:Int)):=by omega
 clear hi hsn hb1 hbx hc1 hs1 hc hs hr hla hup hnth hvk hva hvx hvr hvs hvl hv hun hwf hp h hlen hvlen hplen hin hnl
 go_enter Try.func39,Try.ntmps39
 go_wp2_with fail
 refine (HH.out p HP.out HPL.out HLEN.out _ _ _ HC1.out HS1.out HR1.out).mono ?_
 rintro e w9 ⟨rfl,hf9,hs9⟩
 simp only []
 go_wp2_with fail
 go_end0
 exact ⟨rfl,HF1.out.trans hf9,hs9⟩
set_option maxRecDepth 100000 in
set_option maxHeartbeats 4000000 in
theorem behind_grp (G:Wr) (hwf:G.wf) (s s':Mean.St) (n p:Mean.Un) (Kp:Mean.Kt) (i pl:Nat) (nt:List Int) (hp:Mean.InT G.root p Kp) (hi:p.subs[i]?=some n) (hkind:p.kind=7) (h:G.does s (.go Kp pl (nt.set (2*p.ix+1).toNat pl)) s') (hpl:pl≤G.nt) (hlen:nt.length=G.NL) (w:World) (N:Option Addr) (c:Nat) (hc:G.cst w) (hs:G.st w s) (hr:RdA w (G.still w) 1 N G.NL c (nt.map (Value.int .i64))) :
  Calls Try.prog 39 #[.pointer (some ⟨G.wb,0,none⟩),.int .i64 (n.ad:Int),.int .i64 (pl:Int),.slice N G.NL c] w fun e w'=>e=.returned (.tuple #[])∧G.fr w w'∧G.st w' s':=by
 obtain ⟨hnl,un,hun,hup,hnth⟩:=(hwf.rep p (Mean.inT_all hp)).kids i n hi
 obtain ⟨⟨v,hv,hvk,hva,hvx,hvr,hvs,hvl⟩,-⟩:=hwf.rep p (Mean.inT_all hp)
 obtain ⟨kk,va,vx,ra,rc,rng,sa,sc,vsubs,lz,vup,vnth⟩:=v
 simp only [] at hvk hva hvx hvr hvs hvl
 have hpl2:=(zzK.1 hv).1
 have hnl2:=(zzK.1 hun).1
 obtain ⟨lb,lo,hla⟩:=hc.la (by omega)
 have HLA:=zzA hla
 obtain rfl:kk=7:=by rw [hvk,hkind];rfl
 have n6:w.cell? ⟨lb,lo+n.ad*8+6,none⟩=some (.int .i64 (p.ad:Int)):=by rw [←hup];exact hc.cells hla hun 6 _ (by decide) rfl
 obtain ⟨p0,p1,p2,p3,p4,p5,p6,p7⟩:=hc.cells8 hla hv
 obtain ⟨c0,c1,c2,c3,c4,c5⟩:=(hs).wcells
 have ct:w.cell? ⟨G.tb,0,none⟩=some (.slice (some ⟨lb,lo,none⟩) G.L.length G.lc):=by rw [←HLA.out];exact (hc).tree.2.cell 0
 have hb1:Below w.heap.size w (w.alloc (.cells #[.int .i64 (7),.int .i64 va,.int .i64 vx,.slice ra rng.length rc,.slice sa vsubs.length sc,.bool lz,.int .i64 vup,.int .i64 vnth] 87)):=(zzb _ _).alloc (zzF _) _
 have hbx:=Blk.new w 87 [.int .i64 (7),.int .i64 va,.int .i64 vx,.slice ra rng.length rc,.slice sa vsubs.length sc,.bool lz,.int .i64 vup,.int .i64 vnth]
 have hc1:=hc.fr (hc.below hb1)
 have hs1:=hs.below hc hb1
 have HC1:=zzA hc1
 have HS1:=zzA hs1
 have HF1:=zzA (hc.below hb1)
 have HR1:=zzA (hr.fr6 (hc.below hb1))
 have n7:(w.alloc (.cells #[.int .i64 (7),.int .i64 va,.int .i64 vx,.slice ra rng.length rc,.slice sa vsubs.length sc,.bool lz,.int .i64 vup,.int .i64 vnth] 87)).cell? ⟨lb,lo+n.ad*8+7,none⟩=some (.int .i64 (i:Int)):=by rw [←hnth];exact hc1.cells hla hun 7 _ (by decide) rfl
 obtain ⟨d0,d1,d2,d3,d4,d5⟩:=(hs1).wcells
 have dt:(w.alloc (.cells #[.int .i64 (7),.int .i64 va,.int .i64 vx,.slice ra rng.length rc,.slice sa vsubs.length sc,.bool lz,.int .i64 vup,.int .i64 vnth] 87)).cell? ⟨G.tb,0,none⟩=some (.slice (some ⟨lb,lo,none⟩) G.L.length G.lc):=by rw [←HLA.out];exact (hc1).tree.2.cell 0
 obtain ⟨x0,x1,x2,x3,x4,x5,x6,x7⟩:=bc8 (hbx)
 have hni:(n.ad:Int) < (G.L.length:Int):=by omega
 have hpi:(p.ad:Int) < (G.L.length:Int):=by omega
 have hp0:¬((p.ad:Int) < 0):=by omega
 have hfew:=hwf.few
 have hin:i < p.subs.length:=(zzK.1 hi).1
 have hvlen:vsubs.length=p.subs.length:=by rw [hvs,zzP]
 have hplen:p.subs.length≤1099511627776:=by
  have h1:=(hc.lists _ (zzL hv)).2.2.1
  have h2:=mem_few G.root p (Mean.inT_all hp)
  have h3:=hwf.all_few
  omega
 have HWF:=zzA hwf
 have HV:=zzA hv
 have HVS:=zzA hvs
 have HVX:=zzA hvx
 have HP:=zzA hp
 have HH:=zzA h
 have HPL:=zzA hpl
 have HLEN:=zzA hlen
 have HVL:=zzA hvlen
 have hvi:i+1≤vsubs.length:=by omega
 have hvl2:vsubs.length≤1099511627776:=by omega
 obtain ⟨g,hg1,hg2⟩:=hwf.ok
 have hpix:=(hg2 p (Mean.inT_all hp)).2.2.2.1 hkind
 rw [←hvx] at hpix h
 obtain ⟨j,hj⟩:∃ j:Nat,(j:Int)=2*vx+1:=⟨(2*vx+1).toNat,by omega⟩
 have hjn:(2*vx+1).toNat=j:=by omega
 rw [hjn] at h
 have HH:=zzA h
 have hNL:=hwf.nl2
 have hnt:=noted6_any N G.NL c j nt (pl:Int) (w.alloc (.cells #[.int .i64 (7),.int .i64 va,.int .i64 vx,.slice ra rng.length rc,.slice sa vsubs.length sc,.bool lz,.int .i64 vup,.int .i64 vnth] 87)) (HR1.out.reads fun b hb=>hb.1) hNL (by omega)
 rw [hj] at hnt
 have HNT:=zzA hnt
 have hvb:0≤vx∧vx≤1099511627:=by omega
 have hwr:IntKind.i64.wrap (2*vx)=2*vx:=by rw [IntKind.wrap_i64];omega
 have hwr2:IntKind.i64.wrap (2*vx+1)=2*vx+1:=by rw [IntKind.wrap_i64];omega
 clear hnt hj hjn hpix hg1 hg2
 clear hi hb1 hbx hc1 hs1 hc hs hr hla hup hnth hvk hva hvx hvr hvs hvl hv hun hwf hp h hlen hvlen hplen hin hnl
 go_enter Try.func39,Try.ntmps39
 go_wp2_with fail
 refine HNT.out.mono ?_
 rintro e w2 ⟨N2,c2,rfl,hb2,hn2⟩
 have HF2:=zzA (HC1.out.below hb2)
 have HR2:=zzA (HC1.out.fresh HS1.out hb2 hn2)
 have HS2:=zzA (HS1.out.below HC1.out hb2)
 clear hb2 hn2
 simp only []
 go_wp2_with fail
 refine (HH.out p HP.out HPL.out (by rw [List.length_set];exact HLEN.out) _ _ _ (HC1.out.fr HF2.out) HS2.out HR2.out).mono ?_
 rintro e w9 ⟨rfl,hf9,hs9⟩
 simp only []
 go_wp2_with fail
 go_end0
 exact ⟨rfl,HF1.out.trans (HF2.out.trans hf9),hs9⟩
set_option maxRecDepth 100000 in
set_option maxHeartbeats 4000000 in
theorem behind_decs (G:Wr) (hwf:G.wf) (s s':Mean.St) (n p:Mean.Un) (Kp:Mean.Kt) (i pl:Nat) (nt:List Int) (hp:Mean.InT G.root p Kp) (hi:p.subs[i]?=some n) (hkind:p.kind=-2) (h:G.does s (.dcd p pl nt Kp) s') (hpl:pl≤G.nt) (hlen:nt.length=G.NL) (w:World) (N:Option Addr) (c:Nat) (hc:G.cst w) (hs:G.st w s) (hr:RdA w (G.still w) 1 N G.NL c (nt.map (Value.int .i64))) :
  Calls Try.prog 39 #[.pointer (some ⟨G.wb,0,none⟩),.int .i64 (n.ad:Int),.int .i64 (pl:Int),.slice N G.NL c] w fun e w'=>e=.returned (.tuple #[])∧G.fr w w'∧G.st w' s':=by
 obtain ⟨hnl,un,hun,hup,hnth⟩:=(hwf.rep p (Mean.inT_all hp)).kids i n hi
 obtain ⟨⟨v,hv,hvk,hva,hvx,hvr,hvs,hvl⟩,-⟩:=hwf.rep p (Mean.inT_all hp)
 obtain ⟨kk,va,vx,ra,rc,rng,sa,sc,vsubs,lz,vup,vnth⟩:=v
 simp only [] at hvk hva hvx hvr hvs hvl
 have hpl2:=(zzK.1 hv).1
 have hnl2:=(zzK.1 hun).1
 obtain ⟨lb,lo,hla⟩:=hc.la (by omega)
 have HLA:=zzA hla
 obtain rfl:kk=101:=by rw [hvk,hkind];rfl
 have n6:w.cell? ⟨lb,lo+n.ad*8+6,none⟩=some (.int .i64 (p.ad:Int)):=by rw [←hup];exact hc.cells hla hun 6 _ (by decide) rfl
 obtain ⟨p0,p1,p2,p3,p4,p5,p6,p7⟩:=hc.cells8 hla hv
 obtain ⟨c0,c1,c2,c3,c4,c5⟩:=(hs).wcells
 have ct:w.cell? ⟨G.tb,0,none⟩=some (.slice (some ⟨lb,lo,none⟩) G.L.length G.lc):=by rw [←HLA.out];exact (hc).tree.2.cell 0
 have hb1:Below w.heap.size w (w.alloc (.cells #[.int .i64 (101),.int .i64 va,.int .i64 vx,.slice ra rng.length rc,.slice sa vsubs.length sc,.bool lz,.int .i64 vup,.int .i64 vnth] 87)):=(zzb _ _).alloc (zzF _) _
 have hbx:=Blk.new w 87 [.int .i64 (101),.int .i64 va,.int .i64 vx,.slice ra rng.length rc,.slice sa vsubs.length sc,.bool lz,.int .i64 vup,.int .i64 vnth]
 have hc1:=hc.fr (hc.below hb1)
 have hs1:=hs.below hc hb1
 have HC1:=zzA hc1
 have HS1:=zzA hs1
 have HF1:=zzA (hc.below hb1)
 have HR1:=zzA (hr.fr6 (hc.below hb1))
 have n7:(w.alloc (.cells #[.int .i64 (101),.int .i64 va,.int .i64 vx,.slice ra rng.length rc,.slice sa vsubs.length sc,.bool lz,.int .i64 vup,.int .i64 vnth] 87)).cell? ⟨lb,lo+n.ad*8+7,none⟩=some (.int .i64 (i:Int)):=by rw [←hnth];exact hc1.cells hla hun 7 _ (by decide) rfl
 obtain ⟨d0,d1,d2,d3,d4,d5⟩:=(hs1).wcells
 have dt:(w.alloc (.cells #[.int .i64 (101),.int .i64 va,.int .i64 vx,.slice ra rng.length rc,.slice sa vsubs.length sc,.bool lz,.int .i64 vup,.int .i64 vnth] 87)).cell? ⟨G.tb,0,none⟩=some (.slice (some ⟨lb,lo,none⟩) G.L.length G.lc):=by rw [←HLA.out];exact (hc1).tree.2.cell 0
 obtain ⟨x0,x1,x2,x3,x4,x5,x6,x7⟩:=bc8 (hbx)
 have hni:(n.ad:Int) < (G.L.length:Int):=by omega
 have hpi:(p.ad:Int) < (G.L.length:Int):=by omega
 have hp0:¬((p.ad:Int) < 0):=by omega
 have hfew:=hwf.few
 have hin:i < p.subs.length:=(zzK.1 hi).1
 have hvlen:vsubs.length=p.subs.length:=by rw [hvs,zzP]
 have hplen:p.subs.length≤1099511627776:=by
  have h1:=(hc.lists _ (zzL hv)).2.2.1
  have h2:=mem_few G.root p (Mean.inT_all hp)
  have h3:=hwf.all_few
  omega
 have HWF:=zzA hwf
 have HV:=zzA hv
 have HVS:=zzA hvs
 have HVX:=zzA hvx
 have HP:=zzA hp
 have HH:=zzA h
 have HPL:=zzA hpl
 have HLEN:=zzA hlen
 have HVL:=zzA hvlen
 have hvi:i+1≤vsubs.length:=by omega
 have hvl2:vsubs.length≤1099511627776:=by omega
 have HKI:=zzA hkind
 clear hi hb1 hbx hc1 hs1 hc hs hr hla hup hnth hvk hva hvx hvr hvs hvl hv hun hwf hp h hlen hvlen hplen hin hnl
 go_enter Try.func39,Try.ntmps39
 go_wp2_with fail
 refine (HH.out HP.out (by rw [HKI.out];decide) HPL.out HLEN.out _ _ _ HC1.out HS1.out HR1.out).mono ?_
 rintro e w9 ⟨rfl,hf9,hs9⟩
 simp only []
 go_wp2_with fail
 go_end0
 exact ⟨rfl,HF1.out.trans hf9,hs9⟩
set_option maxRecDepth 100000 in
set_option maxHeartbeats 4000000 in
theorem behind_decp (G:Wr) (hwf:G.wf) (s s':Mean.St) (n p:Mean.Un) (Kp:Mean.Kt) (i pl:Nat) (nt:List Int) (hp:Mean.InT G.root p Kp) (hi:p.subs[i]?=some n) (hkind:p.kind=-3) (h:G.does s (.dcd p pl nt Kp) s') (hpl:pl≤G.nt) (hlen:nt.length=G.NL) (w:World) (N:Option Addr) (c:Nat) (hc:G.cst w) (hs:G.st w s) (hr:RdA w (G.still w) 1 N G.NL c (nt.map (Value.int .i64))) :
  Calls Try.prog 39 #[.pointer (some ⟨G.wb,0,none⟩),.int .i64 (n.ad:Int),.int .i64 (pl:Int),.slice N G.NL c] w fun e w'=>e=.returned (.tuple #[])∧G.fr w w'∧G.st w' s':=by
 obtain ⟨hnl,un,hun,hup,hnth⟩:=(hwf.rep p (Mean.inT_all hp)).kids i n hi
 obtain ⟨⟨v,hv,hvk,hva,hvx,hvr,hvs,hvl⟩,-⟩:=hwf.rep p (Mean.inT_all hp)
 obtain ⟨kk,va,vx,ra,rc,rng,sa,sc,vsubs,lz,vup,vnth⟩:=v
 simp only [] at hvk hva hvx hvr hvs hvl
 have hpl2:=(zzK.1 hv).1
 have hnl2:=(zzK.1 hun).1
 obtain ⟨lb,lo,hla⟩:=hc.la (by omega)
 have HLA:=zzA hla
 obtain rfl:kk=102:=by rw [hvk,hkind];rfl
 have n6:w.cell? ⟨lb,lo+n.ad*8+6,none⟩=some (.int .i64 (p.ad:Int)):=by rw [←hup];exact hc.cells hla hun 6 _ (by decide) rfl
 obtain ⟨p0,p1,p2,p3,p4,p5,p6,p7⟩:=hc.cells8 hla hv
 obtain ⟨c0,c1,c2,c3,c4,c5⟩:=(hs).wcells
 have ct:w.cell? ⟨G.tb,0,none⟩=some (.slice (some ⟨lb,lo,none⟩) G.L.length G.lc):=by rw [←HLA.out];exact (hc).tree.2.cell 0
 have hb1:Below w.heap.size w (w.alloc (.cells #[.int .i64 (102),.int .i64 va,.int .i64 vx,.slice ra rng.length rc,.slice sa vsubs.length sc,.bool lz,.int .i64 vup,.int .i64 vnth] 87)):=(zzb _ _).alloc (zzF _) _
 have hbx:=Blk.new w 87 [.int .i64 (102),.int .i64 va,.int .i64 vx,.slice ra rng.length rc,.slice sa vsubs.length sc,.bool lz,.int .i64 vup,.int .i64 vnth]
 have hc1:=hc.fr (hc.below hb1)
 have hs1:=hs.below hc hb1
 have HC1:=zzA hc1
 have HS1:=zzA hs1
 have HF1:=zzA (hc.below hb1)
 have HR1:=zzA (hr.fr6 (hc.below hb1))
 have n7:(w.alloc (.cells #[.int .i64 (102),.int .i64 va,.int .i64 vx,.slice ra rng.length rc,.slice sa vsubs.length sc,.bool lz,.int .i64 vup,.int .i64 vnth] 87)).cell? ⟨lb,lo+n.ad*8+7,none⟩=some (.int .i64 (i:Int)):=by rw [←hnth];exact hc1.cells hla hun 7 _ (by decide) rfl
 obtain ⟨d0,d1,d2,d3,d4,d5⟩:=(hs1).wcells
 have dt:(w.alloc (.cells #[.int .i64 (102),.int .i64 va,.int .i64 vx,.slice ra rng.length rc,.slice sa vsubs.length sc,.bool lz,.int .i64 vup,.int .i64 vnth] 87)).cell? ⟨G.tb,0,none⟩=some (.slice (some ⟨lb,lo,none⟩) G.L.length G.lc):=by rw [←HLA.out];exact (hc1).tree.2.cell 0
 obtain ⟨x0,x1,x2,x3,x4,x5,x6,x7⟩:=bc8 (hbx)
 have hni:(n.ad:Int) < (G.L.length:Int):=by omega
 have hpi:(p.ad:Int) < (G.L.length:Int):=by omega
 have hp0:¬((p.ad:Int) < 0):=by omega
 have hfew:=hwf.few
 have hin:i < p.subs.length:=(zzK.1 hi).1
 have hvlen:vsubs.length=p.subs.length:=by rw [hvs,zzP]
 have hplen:p.subs.length≤1099511627776:=by
  have h1:=(hc.lists _ (zzL hv)).2.2.1
  have h2:=mem_few G.root p (Mean.inT_all hp)
  have h3:=hwf.all_few
  omega
 have HWF:=zzA hwf
 have HV:=zzA hv
 have HVS:=zzA hvs
 have HVX:=zzA hvx
 have HP:=zzA hp
 have HH:=zzA h
 have HPL:=zzA hpl
 have HLEN:=zzA hlen
 have HVL:=zzA hvlen
 have hvi:i+1≤vsubs.length:=by omega
 have hvl2:vsubs.length≤1099511627776:=by omega
 have HKI:=zzA hkind
 clear hi hb1 hbx hc1 hs1 hc hs hr hla hup hnth hvk hva hvx hvr hvs hvl hv hun hwf hp h hlen hvlen hplen hin hnl
 go_enter Try.func39,Try.ntmps39
 go_wp2_with fail
 refine (HH.out HP.out (by rw [HKI.out];decide) HPL.out HLEN.out _ _ _ HC1.out HS1.out HR1.out).mono ?_
 rintro e w9 ⟨rfl,hf9,hs9⟩
 simp only []
 go_wp2_with fail
 go_end0
 exact ⟨rfl,HF1.out.trans hf9,hs9⟩
set_option maxRecDepth 100000 in
set_option maxHeartbeats 4000000 in
theorem behind_up (G:Wr) (hwf:G.wf) (s s':Mean.St) (n p:Mean.Un) (Kp:Mean.Kt) (i pl:Nat) (nt:List Int) (hp:Mean.InT G.root p Kp) (hi:p.subs[i]?=some n) (hkind:kindR p.kind≠4∧kindR p.kind≠7∧kindR p.kind≠101∧kindR p.kind≠102) (h:∀ (w:World) (N:Option Addr) (c:Nat),G.cst w→G.st w s→RdA w (G.still w) 1 N G.NL c (nt.map (Value.int .i64))→Calls Try.prog 39 #[.pointer (some ⟨G.wb,0,none⟩),.int .i64 (p.ad:Int),.int .i64 (pl:Int),.slice N G.NL c] w fun e w'=>e=.returned (.tuple #[])∧G.fr w w'∧G.st w' s') (hpl:pl≤G.nt) (hlen:nt.length=G.NL) (w:World) (N:Option Addr) (c:Nat) (hc:G.cst w) (hs:G.st w s) (hr:RdA w (G.still w) 1 N G.NL c (nt.map (Value.int .i64))) :
  Calls Try.prog 39 #[.pointer (some ⟨G.wb,0,none⟩),.int .i64 (n.ad:Int),.int .i64 (pl:Int),.slice N G.NL c] w fun e w'=>e=.returned (.tuple #[])∧G.fr w w'∧G.st w' s':=by
 obtain ⟨hnl,un,hun,hup,hnth⟩:=(hwf.rep p (Mean.inT_all hp)).kids i n hi
 obtain ⟨⟨v,hv,hvk,hva,hvx,hvr,hvs,hvl⟩,-⟩:=hwf.rep p (Mean.inT_all hp)
 obtain ⟨kk,va,vx,ra,rc,rng,sa,sc,vsubs,lz,vup,vnth⟩:=v
 simp only [] at hvk hva hvx hvr hvs hvl
 have hpl2:=(zzK.1 hv).1
 have hnl2:=(zzK.1 hun).1
 obtain ⟨lb,lo,hla⟩:=hc.la (by omega)
 have HLA:=zzA hla
 have hkk:kk≠4∧kk≠7∧kk≠101∧kk≠102:=by rw [hvk];exact hkind
 have hk4:(kk==4)=false:=by rw [beq_eq_false_iff_ne];omega
 have hk7:(kk==7)=false:=by rw [beq_eq_false_iff_ne];omega
 have hk101:(kk==101)=false:=by rw [beq_eq_false_iff_ne];omega
 have hk102:(kk==102)=false:=by rw [beq_eq_false_iff_ne];omega
 have n6:w.cell? ⟨lb,lo+n.ad*8+6,none⟩=some (.int .i64 (p.ad:Int)):=by rw [←hup];exact hc.cells hla hun 6 _ (by decide) rfl
 obtain ⟨p0,p1,p2,p3,p4,p5,p6,p7⟩:=hc.cells8 hla hv
 obtain ⟨c0,c1,c2,c3,c4,c5⟩:=(hs).wcells
 have ct:w.cell? ⟨G.tb,0,none⟩=some (.slice (some ⟨lb,lo,none⟩) G.L.length G.lc):=by rw [←HLA.out];exact (hc).tree.2.cell 0
 have hb1:Below w.heap.size w (w.alloc (.cells #[.int .i64 (kk),.int .i64 va,.int .i64 vx,.slice ra rng.length rc,.slice sa vsubs.length sc,.bool lz,.int .i64 vup,.int .i64 vnth] 87)):=(zzb _ _).alloc (zzF _) _
 have hbx:=Blk.new w 87 [.int .i64 (kk),.int .i64 va,.int .i64 vx,.slice ra rng.length rc,.slice sa vsubs.length sc,.bool lz,.int .i64 vup,.int .i64 vnth]
 have hc1:=hc.fr (hc.below hb1)
 have hs1:=hs.below hc hb1
 have HC1:=zzA hc1
 have HS1:=zzA hs1
 have HF1:=zzA (hc.below hb1)
 have HR1:=zzA (hr.fr6 (hc.below hb1))
 have n7:(w.alloc (.cells #[.int .i64 (kk),.int .i64 va,.int .i64 vx,.slice ra rng.length rc,.slice sa vsubs.length sc,.bool lz,.int .i64 vup,.int .i64 vnth] 87)).cell? ⟨lb,lo+n.ad*8+7,none⟩=some (.int .i64 (i:Int)):=by rw [←hnth];exact hc1.cells hla hun 7 _ (by decide) rfl
 obtain ⟨d0,d1,d2,d3,d4,d5⟩:=(hs1).wcells
 have dt:(w.alloc (.cells #[.int .i64 (kk),.int .i64 va,.int .i64 vx,.slice ra rng.length rc,.slice sa vsubs.length sc,.bool lz,.int .i64 vup,.int .i64 vnth] 87)).cell? ⟨G.tb,0,none⟩=some (.slice (some ⟨lb,lo,none⟩) G.L.length G.lc):=by rw [←HLA.out];exact (hc1).tree.2.cell 0
 obtain ⟨x0,x1,x2,x3,x4,x5,x6,x7⟩:=bc8 (hbx)
 have hni:(n.ad:Int) < (G.L.length:Int):=by omega
 have hpi:(p.ad:Int) < (G.L.length:Int):=by omega
 have hp0:¬((p.ad:Int) < 0):=by omega
 have hfew:=hwf.few
 have hin:i < p.subs.length:=(zzK.1 hi).1
 have hvlen:vsubs.length=p.subs.length:=by rw [hvs,zzP]
 have hplen:p.subs.length≤1099511627776:=by
  have h1:=(hc.lists _ (zzL hv)).2.2.1
  have h2:=mem_few G.root p (Mean.inT_all hp)
  have h3:=hwf.all_few
  omega
 have HWF:=zzA hwf
 have HV:=zzA hv
 have HVS:=zzA hvs
 have HVX:=zzA hvx
 have HP:=zzA hp
 have HH:=zzA h
 have HPL:=zzA hpl
 have HLEN:=zzA hlen
 have HVL:=zzA hvlen
 have hvi:i+1≤vsubs.length:=by omega
 have hvl2:vsubs.length≤1099511627776:=by omega
 clear hi hkk hb1 hbx hc1 hs1 hc hs hr hla hup hnth hvk hva hvx hvr hvs hvl hv hun hwf hp h hlen hvlen hplen hin hnl
 go_enter Try.func39,Try.ntmps39
 go_wp2_with fail
 refine (HH.out _ _ _ HC1.out HS1.out HR1.out).mono ?_
 rintro e w9 ⟨rfl,hf9,hs9⟩
 simp only []
 go_wp2_with fail
 go_end0
 exact ⟨rfl,HF1.out.trans hf9,hs9⟩
end Go.Proofs.Ytkhkllpdhnmhkaa
namespace Go.Proofs.Ytkhkllpdhnmhkaa
open Go.RowKit
theorem still_new {G:Wr} {w w1:World} {s:Mean.St} (hc:G.cst w) (hs:G.st w s) (hb:Below w.heap.size w w1) (hlt:w.heap.size < w1.heap.size):G.still w1 w.heap.size :=
 ⟨hlt,fun hm=>by
  rcases mem_mut6.1 hm with e | e
  ·have:=hc.lt _ e;omega
  ·obtain ⟨V,ps,hbk,ho,-⟩:=hs.out
   unfold outB6 at e
   rw [hb.cell (p:=⟨G.wb,6,none⟩) hc.wb,show w.cell? ⟨G.wb,6,none⟩=some V from hbk.cell 6] at e
   have:=(ho.lt _ e).2
   omega⟩
set_option maxRecDepth 100000 in
set_option maxHeartbeats 4000000 in
theorem choose6_any (G:Wr) (hwf:G.wf) (s s':Mean.St) (n:Mean.Un) (pl:Nat) (nt:List Int) (K:Mean.Kt) (hn:Mean.InT G.root n K) (hkind:n.kind=-1∨n.kind=-2∨n.kind=-3) (h:G.chain s (Mean.choose n pl nt (Mean.kidK n K) K) s') (hpl:pl≤G.nt) (hlen:nt.length=G.NL) (w:World) (N:Option Addr) (c:Nat) (hc:G.cst w) (hs:G.st w s) (hr:RdA w (G.still w) 1 N G.NL c (nt.map (Value.int .i64))) :
  Calls Try.prog 44 #[.pointer (some ⟨G.wb,0,none⟩),.int .i64 (n.ad:Int),.int .i64 (pl:Int),.slice N G.NL c] w fun e w'=>e=.returned (.tuple #[])∧G.fr w w'∧G.st w' s':=by
 obtain ⟨⟨v,hv,hvk,hva,hvx,hvr,hvs,hvl⟩,-⟩:=hwf.rep n (Mean.inT_all hn)
 obtain ⟨kk,va,vx,ra,rc,rng,sa,sc,vsubs,lz,vup,vnth⟩:=v
 simp only [] at hvk hva hvx hvr hvs hvl
 have hnl2:=(zzK.1 hv).1
 obtain ⟨lb,lo,hla⟩:=hc.la (by omega)
 have HLA:=zzA hla
 have hfew:=hwf.few
 have hni:(n.ad:Int) < (G.L.length:Int):=by omega
 obtain ⟨p0,p1,p2,p3,p4,p5,p6,p7⟩:=hc.cells8 hla hv
 obtain ⟨c0,c1,c2,c3,c4,c5⟩:=(hs).wcells
 have ct:w.cell? ⟨G.tb,0,none⟩=some (.slice (some ⟨lb,lo,none⟩) G.L.length G.lc):=by rw [←HLA.out];exact (hc).tree.2.cell 0
 have hb1:Below w.heap.size w (w.alloc (.cells #[.int .i64 (kk),.int .i64 va,.int .i64 vx,.slice ra rng.length rc,.slice sa vsubs.length sc,.bool lz,.int .i64 vup,.int .i64 vnth] 87)):=(zzb _ _).alloc (zzF _) _
 have hbx:=Blk.new w 87 [.int .i64 (kk),.int .i64 va,.int .i64 vx,.slice ra rng.length rc,.slice sa vsubs.length sc,.bool lz,.int .i64 vup,.int .i64 vnth]
 have hst:=still_new hc hs hb1 hbx.lt
 have hc1:=hc.fr (hc.below hb1)
 have hs1:=hs.below hc hb1
 obtain ⟨sn,hsn⟩:∃ sn,n.subs[0]?=some sn:=by
  obtain ⟨g,-,hg⟩:=hwf.ok
  have:=(hg n (Mean.inT_all hn)).2.2.2.2 (by omega)
  exact ⟨_,zzJ this⟩
 have hsv:vsubs[0]?=some sn.ad:=by rw [hvs,zza,hsn];rfl
 obtain ⟨sb,so,hsa,hsc⟩:=hc1.sub (zzL hv) hsv
 simp only [] at hsa
 subst hsa
 rw [Nat.add_zero] at hsc
 have hvl0:=(zzK.1 hsv).1
 have hvl1:(0:Int) < (vsubs.length:Int):=by omega
 obtain ⟨x0,x1,x2,x3,x4,x5,x6,x7⟩:=bc8 (hbx)
 have hsc2:(w.alloc (.cells #[.int .i64 (kk),.int .i64 va,.int .i64 vx,.slice ra rng.length rc,.slice (some ⟨sb,so,none⟩) vsubs.length sc,.bool lz,.int .i64 vup,.int .i64 vnth] 87)).cell? ⟨sb,so,none⟩=some (.int .i64 (sn.ad:Int)):=hsc
 have hIN:Mean.InT G.root sn (Mean.kidK n K):=by
  have:=inT_at hn hsn
  rwa [kidAt,if_neg (by omega)] at this
 have hh:G.chain s (if n.lz then [.go K pl nt,.beg sn pl nt (Mean.kidK n K)] else [.beg sn pl nt (Mean.kidK n K),.go K pl nt]) s':=by
  unfold Mean.choose at h
  cases hss:n.subs with
  | nil=>rw [hss] at hsn;simp at hsn
  | cons a l =>
   rw [hss] at h hsn
   simp only [zzR,zzd] at hsn
   subst hsn
   exact h
 rw [←hvl] at hh
 have HIN:=zzA hIN
 have HN:=zzA hn
 have HC1:=zzA hc1
 have HS1:=zzA hs1
 have HST:=zzA hst
 have HF1:=zzA (hc.below hb1)
 have HR1:=zzA (hr.fr6 (hc.below hb1))
 have HPL:=zzA hpl
 have HLEN:=zzA hlen
 have HBX:=zzA hbx
 have HV:=zzA (zzL hv)
 have HSV:=zzA hsv
 clear hst hb1 hbx hc1 hs1 hc hs hr hla hvk hva hvx hvr hvs hvl hv hwf hn h hlen hsn hsv hsc hIN
 cases lz with
 | true =>
  rw [if_pos rfl] at hh
  obtain ⟨s1,h1,s2,h2,rfl⟩:=hh
  have H1:=zzA h1
  have H2:=zzA h2
  clear h1 h2
  go_enter Try.func44,Try.ntmps44
  go_wp2_with fail
  refine (H1.out n HN.out HPL.out HLEN.out _ _ _ HC1.out HS1.out HR1.out).mono ?_
  rintro e w2 ⟨rfl,hf2,hs2⟩
  have hst:G.still (w.alloc (.cells #[.int .i64 (kk),.int .i64 va,.int .i64 vx,.slice ra rng.length rc,.slice (some ⟨sb,so,none⟩) vsubs.length sc,.bool true,.int .i64 vup,.int .i64 vnth] 87)) w.heap.size:=HST.out
  have y4:w2.cell? ⟨w.heap.size,4,none⟩=some (.slice (some ⟨sb,so,none⟩) vsubs.length sc):=(hst.cell hf2 4).trans (HBX.out.cell 4)
  obtain ⟨b2,o2,e2,y5⟩:=(HC1.out.fr hf2).sub HV.out HSV.out
  simp only [zzd,Addr.mk.injEq,and_true] at e2
  obtain ⟨rfl,rfl⟩:=e2
  rw [Nat.add_zero] at y5
  have HC2:=zzA (HC1.out.fr hf2)
  have HS2:=zzA hs2
  have HF2:=zzA hf2
  have HR2:=zzA (HR1.out.fr6 hf2)
  clear hf2 hs2 hst
  simp only []
  go_wp2_with fail
  refine (H2.out HIN.out HPL.out HLEN.out _ _ _ HC2.out HS2.out HR2.out).mono ?_
  rintro e w3 ⟨rfl,hf3,hs3⟩
  simp only []
  go_wp2_with fail
  refine bodyPost_ret (results_none rfl _ _ _) rfl ?_
  exact ⟨rfl,HF1.out.trans (HF2.out.trans hf3),hs3⟩
 | false =>
  rw [if_neg (by simp)] at hh
  obtain ⟨s1,h1,s2,h2,rfl⟩:=hh
  have H1:=zzA h1
  have H2:=zzA h2
  clear h1 h2
  go_enter Try.func44,Try.ntmps44
  go_wp2_with fail
  refine (H1.out HIN.out HPL.out HLEN.out _ _ _ HC1.out HS1.out HR1.out).mono ?_
  rintro e w2 ⟨rfl,hf2,hs2⟩
  simp only []
  go_wp2_with fail
  refine (H2.out n HN.out HPL.out HLEN.out _ _ _ (HC1.out.fr hf2) hs2 (HR1.out.fr6 hf2)).mono ?_
  rintro e w3 ⟨rfl,hf3,hs3⟩
  simp only []
  go_wp2_with fail
  go_end0
  exact ⟨rfl,HF1.out.trans (hf2.trans hf3),hs3⟩
end Go.Proofs.Ytkhkllpdhnmhkaa
namespace Go.Proofs.Ytkhkllpdhnmhkaa
open Go.RowKit
set_option maxRecDepth 100000 in
set_option maxHeartbeats 4000000 in
theorem decide6_any (G:Wr) (hwf:G.wf) (s s':Mean.St) (n:Mean.Un) (pl:Nat) (nt:List Int) (K:Mean.Kt) (h:G.chain (Mean.work G.t G.at_ s (.dcd n pl nt K)).1 (Mean.work G.t G.at_ s (.dcd n pl nt K)).2 s'):G.does s (.dcd n pl nt K) s':=by
 intro hn hkind hpl hlen w N c hc hs hr
 obtain ⟨⟨v,hv,hvk,hva,hvx,hvr,hvs,hvl⟩,-⟩:=hwf.rep n (Mean.inT_all hn)
 obtain ⟨kk,va,vx,ra,rc,rng,sa,sc,vsubs,lz,vup,vnth⟩:=v
 simp only [] at hvk hva hvx hvr hvs hvl
 have hnl2:=(zzK.1 hv).1
 obtain ⟨lb,lo,hla⟩:=hc.la (by omega)
 have HLA:=zzA hla
 have hfew:=hwf.few
 have hni:(n.ad:Int) < (G.L.length:Int):=by omega
 obtain ⟨gg,hgg⟩:∃ gg,G.gd[n.ad]?=some gg:=⟨_,zzJ (by rw [hwf.gdl];exact hnl2)⟩
 obtain ⟨rb,ro,hba,hrc⟩:=hc.rowD hgg
 have hbk:=hs.dcd n.ad gg hgg
 have r0:w.cell? ⟨rb,ro+n.ad,none⟩=some (.slice (some ⟨gg,0,none⟩) (G.nt+1) (G.nt+1)):=hrc
 have r1:w.cell? ⟨gg,pl,none⟩=some (.bool (decide (s.met (n.ad,pl,true)≠0))):=(hbk.cell pl).trans (rowM_get hpl)
 have r2:=hbk.frozen pl
 have r3:=hbk.lt
 have hgl:(n.ad:Int) < (G.gd.length:Int):=by rw [hwf.gdl];omega
 have hpi:(pl:Int) < (G.nt:Int)+1:=by omega
 have hsh:=hwf.short
 have hgl2:G.gd.length≤1000000000:=by rw [hwf.gdl];exact hwf.few
 have cb:w.cell? ⟨G.wb,4,none⟩=some (.slice (some ⟨rb,ro,none⟩) G.gd.length G.dc):=by rw [←hba];exact (hs).wcell 4 (by decide)
 have HN:=zzA hn
 have HWF:=zzA hwf
 have HC:=zzA hc
 have HS:=zzA hs
 have HPL:=zzA hpl
 have HLEN:=zzA hlen
 have HR:=zzA hr
 simp only [Mean.work] at h
 by_cases hm:s.met (n.ad,pl,true)=0
 ·rw [if_pos hm] at h
  have hmd:decide (s.met (n.ad,pl,true)≠0)=false:=by simp [hm]
  rw [hmd] at r1
  obtain ⟨hf1,hs1⟩:=Wr.marked hwf hc hs (b:=true) (pl:=pl) (show (if true=true then G.gd else G.gb)[n.ad]?=some gg from hgg)
  have HF1:=zzA hf1
  have hch:=choose6_any G hwf (s.mark (n.ad,pl,true)) s' n pl nt K hn (by omega) (by
   have e:Mean.kidK n K=.dec n K:=by unfold Mean.kidK;rw [if_neg (by omega),if_pos hkind]
   rw [e];exact h) hpl hlen (w.setCell ⟨gg,pl,none⟩ (.bool true)) N c (hc.fr hf1) hs1 (hr.fr6 hf1)
  have HCH:=zzA hch
  clear hch hf1 hs1 h hmd hm hc hs hr hn hwf hlen hv hvk hva hvx hvr hvs hvl hla hgg hba hrc hbk hkind
  go_enter Try.func45,Try.ntmps45
  go_wp2_with fail
  refine HCH.out.mono ?_
  rintro e w3 ⟨rfl,hf3,hs3⟩
  simp only []
  go_wp2_with fail
  go_end0
  exact ⟨rfl,HF1.out.trans hf3,hs3⟩
 ·rw [if_neg hm] at h
  have hmd:decide (s.met (n.ad,pl,true)≠0)=true:=by simp [hm]
  rw [hmd] at r1
  have HH:=zzA (show s'=s.mark (n.ad,pl,true) from h)
  have HM:=zzA hm
  clear h hmd hm hc hs hr hn hwf hlen hv hvk hva hvx hvr hvs hvl hla hgg hba hrc hbk hkind
  go_enter Try.func45,Try.ntmps45
  go_wp2_with fail
  refine bodyPost_ret (results_none rfl _ _ _) rfl ?_
  exact ⟨rfl,HC.out.below (zzb _ _),by rw [HH.out];exact Wr.again HS.out HM.out⟩
end Go.Proofs.Ytkhkllpdhnmhkaa
