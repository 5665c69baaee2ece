/- heronref06's walker.begin: assertions, rows, loops. -/
import Derived.Test.YtkhkllpdhnmhkaaP19
import Derived.Test.YtkhkllpdhnmhkaaP22
namespace Go.Proofs.Ytkhkllpdhnmhkaa
open Go.RowKit
set_option maxRecDepth 100000 in
set_option maxHeartbeats 4000000 in
theorem begin_3 (G:Wr) (hwf:G.wf) (s s':Mean.St) (n:Mean.Un) (pl:Nat) (nt:List Int) (K:Mean.Kt) (hn:Mean.InT G.root n K) (hm:s.met (n.ad,pl,false)=0) (hkind:n.kind=3) (h:G.chain (s.mark (n.ad,pl,false)) (if Mach.asB G.t pl n.ast then [.go K pl nt] else []) s') (hpl:pl≤G.nt) (hlen:nt.length=G.NL) (w:World) (N:Option Addr) (c:Nat) (hc:G.cst w) (hs:G.st w s) (hr:RdA w (G.still w) 1 N G.NL c (nt.map (Value.int .i64))) :
  Calls Try.prog 27 #[.pointer (some ⟨G.wb,0,none⟩),.int .i64 (n.ad:Int),.int .i64 (pl:Int),.slice N G.NL c] w fun e w'=>e=.returned (.tuple #[])∧G.fr w w'∧G.st w' s':=by
 obtain ⟨⟨v,hv,hvk,hva,hvx,hvr,hvs,hvl⟩,-⟩:=hwf.rep n (Mean.inT_all hn)
 obtain ⟨kk,va,vx,ra,rc,rng,sa,sc,vsubs,lz,vup,vnth⟩:=v
 simp only [] at hvk hva hvx hvr hvs hvl
 obtain rfl:kk=3:=by rw [hvk,hkind];rfl
 have hnl2:=(zzK.1 hv).1
 obtain ⟨lb,lo,hla⟩:=hc.la (by omega)
 have HLA:=zzA hla
 have hfew:=hwf.few
 have hni:(n.ad:Int) < (G.L.length:Int):=by omega
 obtain ⟨gg,hgg⟩:∃ gg,G.gb[n.ad]?=some gg:=⟨_,zzJ (by rw [hwf.gbl];exact hnl2)⟩
 obtain ⟨rb,ro,hba,hrc⟩:=hc.row hgg
 have hbk:=hs.beg n.ad gg hgg
 have r0:w.cell? ⟨rb,ro+n.ad,none⟩=some (.slice (some ⟨gg,0,none⟩) (G.nt+1) (G.nt+1)):=hrc
 have r1:w.cell? ⟨gg,pl,none⟩=some (.bool (decide (s.met (n.ad,pl,false)≠0))):=(hbk.cell pl).trans (rowM_get hpl)
 have r2:=hbk.frozen pl
 have r3:=hbk.lt
 have hgl:(n.ad:Int) < (G.gb.length:Int):=by rw [hwf.gbl];omega
 have hpi:(pl:Int) < (G.nt:Int)+1:=by omega
 have hsh:=hwf.short
 have hgl2:G.gb.length≤1000000000:=by rw [hwf.gbl];exact hwf.few
 have cb:w.cell? ⟨G.wb,3,none⟩=some (.slice (some ⟨rb,ro,none⟩) G.gb.length G.bc):=by rw [←hba];exact (hs).wcell 3 (by decide)
 have hmd:decide (s.met (n.ad,pl,false)≠0)=false:=by simp [hm]
 rw [hmd] at r1
 obtain ⟨hf1,hs1⟩:=Wr.marked hwf hc hs (b:=false) (pl:=pl) (show (if false=true then G.gd else G.gb)[n.ad]?=some gg from hgg)
 have hc1:=hc.fr hf1
 have c1b:(w.setCell ⟨gg,pl,none⟩ (.bool true)).cell? ⟨G.wb,3,none⟩=some (.slice (some ⟨rb,ro,none⟩) G.gb.length G.bc):=by rw [←hba];exact hs1.wcell 3 (by decide)
 have d0:(w.setCell ⟨gg,pl,none⟩ (.bool true)).cell? ⟨G.wb,0,none⟩=some (.pointer (some ⟨G.tb,0,none⟩)):=hs1.wcell 0 (by decide)
 have d1:(w.setCell ⟨gg,pl,none⟩ (.bool true)).cell? ⟨G.wb,1,none⟩=some (.slice G.At G.nt G.ct):=hs1.wcell 1 (by decide)
 have dt:(w.setCell ⟨gg,pl,none⟩ (.bool true)).cell? ⟨G.tb,0,none⟩=some (.slice (some ⟨lb,lo,none⟩) G.L.length G.lc):=by rw [←HLA.out];exact hc1.tree.2.cell 0
 obtain ⟨p0,p1,p2,p3,p4,p5,p6,p7⟩:=hc1.cells8 hla hv
 have hb2:Below (w.setCell ⟨gg,pl,none⟩ (.bool true)).heap.size (w.setCell ⟨gg,pl,none⟩ (.bool true)) ((w.setCell ⟨gg,pl,none⟩ (.bool true)).alloc (.cells #[.int .i64 (3),.int .i64 va,.int .i64 vx,.slice ra rng.length rc,.slice sa vsubs.length sc,.bool lz,.int .i64 vup,.int .i64 vnth] 87)):=(zzb _ _).alloc (zzF _) _
 have hbx:=Blk.new (w.setCell ⟨gg,pl,none⟩ (.bool true)) 87 [.int .i64 (3),.int .i64 va,.int .i64 vx,.slice ra rng.length rc,.slice sa vsubs.length sc,.bool lz,.int .i64 vup,.int .i64 vnth]
 rw [show (w.setCell ⟨gg,pl,none⟩ (.bool true)).heap.size=w.heap.size from by simp [World.setCell]] at hbx
 have hst:=still_new hc1 hs1 hb2 (by simp)
 rw [show (w.setCell ⟨gg,pl,none⟩ (.bool true)).heap.size=w.heap.size from by simp [World.setCell]] at hst
 have hc2:=hc1.fr (hc1.below hb2)
 have hs2:=hs1.below hc1 hb2
 have hr2:=(hr.fr6 hf1).fr6 (hc1.below hb2)
 have e0:((w.setCell ⟨gg,pl,none⟩ (.bool true)).alloc (.cells #[.int .i64 (3),.int .i64 va,.int .i64 vx,.slice ra rng.length rc,.slice sa vsubs.length sc,.bool lz,.int .i64 vup,.int .i64 vnth] 87)).cell? ⟨G.wb,0,none⟩=some (.pointer (some ⟨G.tb,0,none⟩)):=hs2.wcell 0 (by decide)
 have e1:((w.setCell ⟨gg,pl,none⟩ (.bool true)).alloc (.cells #[.int .i64 (3),.int .i64 va,.int .i64 vx,.slice ra rng.length rc,.slice sa vsubs.length sc,.bool lz,.int .i64 vup,.int .i64 vnth] 87)).cell? ⟨G.wb,1,none⟩=some (.slice G.At G.nt G.ct):=hs2.wcell 1 (by decide)
 obtain ⟨x0,x1,x2,x3,x4,x5,x6,x7⟩:=bc8 (hbx)
 obtain ⟨j6,hj6,hj⟩:∃ j:Nat,j < 6∧n.ast=((2 ^ j:Nat):Int):=by
  obtain ⟨g,-,hg⟩:=hwf.ok
  exact (hg n (Mean.inT_all hn)).2.2.1 hkind
 obtain ⟨z,hz,hz64⟩:∃ z:Nat,Mach.atBits G.t pl=(z:Int)∧z < 64:=by have:=Mach.atBits_bd G.t pl;exact ⟨(Mach.atBits G.t pl).toNat,by omega,by omega⟩
 have hAT:=refAt_any G.At G.nt G.ct pl (((w.setCell ⟨gg,pl,none⟩ (.bool true)).alloc (.cells #[.int .i64 (3),.int .i64 va,.int .i64 vx,.slice ra rng.length rc,.slice sa vsubs.length sc,.bool lz,.int .i64 vup,.int .i64 vnth] 87))).heap.size G.t ((w.setCell ⟨gg,pl,none⟩ (.bool true)).alloc (.cells #[.int .i64 (3),.int .i64 va,.int .i64 vx,.slice ra rng.length rc,.slice sa vsubs.length sc,.bool lz,.int .i64 vup,.int .i64 vnth] 87)) (hc2.text.reads fun b hb=>hb.1) hpl
 rw [hz] at hAT
 have HAT:=zzA hAT
 have hAS:=refHolds_any j6 z hj6 hz64 ((w.setCell ⟨gg,pl,none⟩ (.bool true)).alloc (.cells #[.int .i64 (3),.int .i64 va,.int .i64 vx,.slice ra rng.length rc,.slice sa vsubs.length sc,.bool lz,.int .i64 vup,.int .i64 vnth] 87))
 rw [←hj,←hva] at hAS
 have HAB:=zzA (show Mach.asB G.t pl n.ast=decide ((z:Int) / va % 2=1) from by unfold Mach.asB;rw [hz,hva])
 clear hAT hz hj
 have HN:=zzA hn
 have HWF:=zzA hwf
 have HC:=zzA hc
 have HS:=zzA hs
 have HPL:=zzA hpl
 have HLEN:=zzA hlen
 have HR:=zzA hr
 have HF2:=zzA (hf1.trans (hc1.below hb2))
 have HC2:=zzA hc2
 have HS2:=zzA hs2
 have HR2:=zzA hr2
 have HST:=zzA hst
 have HBX:=zzA hbx
 have HV:=zzA (zzL hv)
 have HH:=zzA h
 clear h hmd hm hc hs hr hn hwf hlen hv hvk hva hvx hvr hvs hvl hla hgg hba hrc hbk hf1 hs1 hc1 hb2 hbx hst hc2 hs2 hr2
 go_enter Try.func27,Try.ntmps27
 cases hds:decide ((z:Int) / va % 2=1) with
 | false =>
  rw [hds] at hAS
  have HAS:=zzA hAS
  have HE:=zzA (show s'=s.mark (n.ad,pl,false) from by
   have h:=HH.out
   rw [if_neg (by rw [HAB.out,hds];simp)] at h
   exact h)
  clear hAS
  go_wp2_with fail
  refine HAT.out.mono ?_
  rintro e w' ⟨rfl,rfl⟩
  simp only []
  go_wp2_with fail
  refine HAS.out.mono ?_
  rintro e w' ⟨rfl,rfl⟩
  simp only []
  go_wp2_with fail
  go_end0
  exact ⟨rfl,HF2.out,by rw [HE.out];exact HS2.out⟩
 | true =>
  rw [hds] at hAS
  have HAS:=zzA hAS
  have hh:=HH.out
  rw [if_pos (by rw [HAB.out,hds])] at hh
  obtain ⟨s1,h1,e1⟩:=hh
  have HH1:=zzA h1
  have HE1:=zzA e1
  clear h1 e1 hAS
  go_wp2_with fail
  refine HAT.out.mono ?_
  rintro e w' ⟨rfl,rfl⟩
  simp only []
  go_wp2_with fail
  refine HAS.out.mono ?_
  rintro e w' ⟨rfl,rfl⟩
  simp only []
  go_wp2_with fail
  refine (HH1.out n HN.out HPL.out HLEN.out _ _ _ HC2.out HS2.out HR2.out).mono ?_
  rintro e w9 ⟨rfl,hf9,hs9⟩
  simp only []
  go_wp2_with fail
  go_end0
  exact ⟨rfl,HF2.out.trans hf9,by rw [HE1.out];exact hs9⟩
set_option maxRecDepth 100000 in
set_option maxHeartbeats 4000000 in
theorem begin_4 (G:Wr) (hwf:G.wf) (s s':Mean.St) (n:Mean.Un) (pl:Nat) (nt:List Int) (K:Mean.Kt) (hn:Mean.InT G.root n K) (hm:s.met (n.ad,pl,false)=0) (hkind:n.kind=4) (sn:Mean.Un) (hsn:n.subs[0]?=some sn) (h:G.does (s.mark (n.ad,pl,false)) (.beg sn pl nt (kidAt n 0 K)) s') (hpl:pl≤G.nt) (hlen:nt.length=G.NL) (w:World) (N:Option Addr) (c:Nat) (hc:G.cst w) (hs:G.st w s) (hr:RdA w (G.still w) 1 N G.NL c (nt.map (Value.int .i64))) :
  Calls Try.prog 27 #[.pointer (some ⟨G.wb,0,none⟩),.int .i64 (n.ad:Int),.int .i64 (pl:Int),.slice N G.NL c] w fun e w'=>e=.returned (.tuple #[])∧G.fr w w'∧G.st w' s':=by
 obtain ⟨⟨v,hv,hvk,hva,hvx,hvr,hvs,hvl⟩,-⟩:=hwf.rep n (Mean.inT_all hn)
 obtain ⟨kk,va,vx,ra,rc,rng,sa,sc,vsubs,lz,vup,vnth⟩:=v
 simp only [] at hvk hva hvx hvr hvs hvl
 obtain rfl:kk=4:=by rw [hvk,hkind];rfl
 have hnl2:=(zzK.1 hv).1
 obtain ⟨lb,lo,hla⟩:=hc.la (by omega)
 have HLA:=zzA hla
 have hfew:=hwf.few
 have hni:(n.ad:Int) < (G.L.length:Int):=by omega
 obtain ⟨gg,hgg⟩:∃ gg,G.gb[n.ad]?=some gg:=⟨_,zzJ (by rw [hwf.gbl];exact hnl2)⟩
 obtain ⟨rb,ro,hba,hrc⟩:=hc.row hgg
 have hbk:=hs.beg n.ad gg hgg
 have r0:w.cell? ⟨rb,ro+n.ad,none⟩=some (.slice (some ⟨gg,0,none⟩) (G.nt+1) (G.nt+1)):=hrc
 have r1:w.cell? ⟨gg,pl,none⟩=some (.bool (decide (s.met (n.ad,pl,false)≠0))):=(hbk.cell pl).trans (rowM_get hpl)
 have r2:=hbk.frozen pl
 have r3:=hbk.lt
 have hgl:(n.ad:Int) < (G.gb.length:Int):=by rw [hwf.gbl];omega
 have hpi:(pl:Int) < (G.nt:Int)+1:=by omega
 have hsh:=hwf.short
 have hgl2:G.gb.length≤1000000000:=by rw [hwf.gbl];exact hwf.few
 have cb:w.cell? ⟨G.wb,3,none⟩=some (.slice (some ⟨rb,ro,none⟩) G.gb.length G.bc):=by rw [←hba];exact (hs).wcell 3 (by decide)
 have hmd:decide (s.met (n.ad,pl,false)≠0)=false:=by simp [hm]
 rw [hmd] at r1
 obtain ⟨hf1,hs1⟩:=Wr.marked hwf hc hs (b:=false) (pl:=pl) (show (if false=true then G.gd else G.gb)[n.ad]?=some gg from hgg)
 have hc1:=hc.fr hf1
 have c1b:(w.setCell ⟨gg,pl,none⟩ (.bool true)).cell? ⟨G.wb,3,none⟩=some (.slice (some ⟨rb,ro,none⟩) G.gb.length G.bc):=by rw [←hba];exact hs1.wcell 3 (by decide)
 have d0:(w.setCell ⟨gg,pl,none⟩ (.bool true)).cell? ⟨G.wb,0,none⟩=some (.pointer (some ⟨G.tb,0,none⟩)):=hs1.wcell 0 (by decide)
 have d1:(w.setCell ⟨gg,pl,none⟩ (.bool true)).cell? ⟨G.wb,1,none⟩=some (.slice G.At G.nt G.ct):=hs1.wcell 1 (by decide)
 have dt:(w.setCell ⟨gg,pl,none⟩ (.bool true)).cell? ⟨G.tb,0,none⟩=some (.slice (some ⟨lb,lo,none⟩) G.L.length G.lc):=by rw [←HLA.out];exact hc1.tree.2.cell 0
 obtain ⟨p0,p1,p2,p3,p4,p5,p6,p7⟩:=hc1.cells8 hla hv
 have hb2:Below (w.setCell ⟨gg,pl,none⟩ (.bool true)).heap.size (w.setCell ⟨gg,pl,none⟩ (.bool true)) ((w.setCell ⟨gg,pl,none⟩ (.bool true)).alloc (.cells #[.int .i64 (4),.int .i64 va,.int .i64 vx,.slice ra rng.length rc,.slice sa vsubs.length sc,.bool lz,.int .i64 vup,.int .i64 vnth] 87)):=(zzb _ _).alloc (zzF _) _
 have hbx:=Blk.new (w.setCell ⟨gg,pl,none⟩ (.bool true)) 87 [.int .i64 (4),.int .i64 va,.int .i64 vx,.slice ra rng.length rc,.slice sa vsubs.length sc,.bool lz,.int .i64 vup,.int .i64 vnth]
 rw [show (w.setCell ⟨gg,pl,none⟩ (.bool true)).heap.size=w.heap.size from by simp [World.setCell]] at hbx
 have hst:=still_new hc1 hs1 hb2 (by simp)
 rw [show (w.setCell ⟨gg,pl,none⟩ (.bool true)).heap.size=w.heap.size from by simp [World.setCell]] at hst
 have hc2:=hc1.fr (hc1.below hb2)
 have hs2:=hs1.below hc1 hb2
 have hr2:=(hr.fr6 hf1).fr6 (hc1.below hb2)
 have e0:((w.setCell ⟨gg,pl,none⟩ (.bool true)).alloc (.cells #[.int .i64 (4),.int .i64 va,.int .i64 vx,.slice ra rng.length rc,.slice sa vsubs.length sc,.bool lz,.int .i64 vup,.int .i64 vnth] 87)).cell? ⟨G.wb,0,none⟩=some (.pointer (some ⟨G.tb,0,none⟩)):=hs2.wcell 0 (by decide)
 have e1:((w.setCell ⟨gg,pl,none⟩ (.bool true)).alloc (.cells #[.int .i64 (4),.int .i64 va,.int .i64 vx,.slice ra rng.length rc,.slice sa vsubs.length sc,.bool lz,.int .i64 vup,.int .i64 vnth] 87)).cell? ⟨G.wb,1,none⟩=some (.slice G.At G.nt G.ct):=hs2.wcell 1 (by decide)
 obtain ⟨x0,x1,x2,x3,x4,x5,x6,x7⟩:=bc8 (hbx)
 have hsv:vsubs[0]?=some sn.ad:=by rw [hvs,zza,hsn];rfl
 have HSV:=zzA hsv
 have HIN:=zzA (inT_at hn hsn)
 have hvl0:=(zzK.1 hsv).1
 have hvl1:(0:Int) < (vsubs.length:Int):=by omega
 clear hsv hsn
 have HN:=zzA hn
 have HWF:=zzA hwf
 have HC:=zzA hc
 have HS:=zzA hs
 have HPL:=zzA hpl
 have HLEN:=zzA hlen
 have HR:=zzA hr
 have HF2:=zzA (hf1.trans (hc1.below hb2))
 have HC2:=zzA hc2
 have HS2:=zzA hs2
 have HR2:=zzA hr2
 have HST:=zzA hst
 have HBX:=zzA hbx
 have HV:=zzA (zzL hv)
 have HH:=zzA h
 clear h hmd hm hc hs hr hn hwf hlen hv hvk hva hvx hvr hvs hvl hla hgg hba hrc hbk hf1 hs1 hc1 hb2 hbx hst hc2 hs2 hr2
 go_enter Try.func27,Try.ntmps27
 obtain ⟨sb,so,hsa,hsc⟩:=HC2.out.sub HV.out HSV.out
 simp only [] at hsa
 subst hsa
 rw [Nat.add_zero] at hsc
 go_wp2_with fail
 refine (HH.out HIN.out HPL.out HLEN.out _ _ _ HC2.out HS2.out HR2.out).mono ?_
 rintro e w9 ⟨rfl,hf9,hs9⟩
 simp only []
 go_wp2_with fail
 go_end0
 exact ⟨rfl,HF2.out.trans hf9,hs9⟩
set_option maxRecDepth 100000 in
set_option maxHeartbeats 4000000 in
theorem begin_p (G:Wr) (hwf:G.wf) (s s':Mean.St) (n:Mean.Un) (pl:Nat) (nt:List Int) (K:Mean.Kt) (hn:Mean.InT G.root n K) (hm:s.met (n.ad,pl,false)=0) (hkind:n.kind=(-3)) (sn:Mean.Un) (hsn:n.subs[0]?=some sn) (h:G.does (s.mark (n.ad,pl,false)) (.beg sn pl nt (kidAt n 0 K)) s') (hpl:pl≤G.nt) (hlen:nt.length=G.NL) (w:World) (N:Option Addr) (c:Nat) (hc:G.cst w) (hs:G.st w s) (hr:RdA w (G.still w) 1 N G.NL c (nt.map (Value.int .i64))) :
  Calls Try.prog 27 #[.pointer (some ⟨G.wb,0,none⟩),.int .i64 (n.ad:Int),.int .i64 (pl:Int),.slice N G.NL c] w fun e w'=>e=.returned (.tuple #[])∧G.fr w w'∧G.st w' s':=by
 obtain ⟨⟨v,hv,hvk,hva,hvx,hvr,hvs,hvl⟩,-⟩:=hwf.rep n (Mean.inT_all hn)
 obtain ⟨kk,va,vx,ra,rc,rng,sa,sc,vsubs,lz,vup,vnth⟩:=v
 simp only [] at hvk hva hvx hvr hvs hvl
 obtain rfl:kk=102:=by rw [hvk,hkind];rfl
 have hnl2:=(zzK.1 hv).1
 obtain ⟨lb,lo,hla⟩:=hc.la (by omega)
 have HLA:=zzA hla
 have hfew:=hwf.few
 have hni:(n.ad:Int) < (G.L.length:Int):=by omega
 obtain ⟨gg,hgg⟩:∃ gg,G.gb[n.ad]?=some gg:=⟨_,zzJ (by rw [hwf.gbl];exact hnl2)⟩
 obtain ⟨rb,ro,hba,hrc⟩:=hc.row hgg
 have hbk:=hs.beg n.ad gg hgg
 have r0:w.cell? ⟨rb,ro+n.ad,none⟩=some (.slice (some ⟨gg,0,none⟩) (G.nt+1) (G.nt+1)):=hrc
 have r1:w.cell? ⟨gg,pl,none⟩=some (.bool (decide (s.met (n.ad,pl,false)≠0))):=(hbk.cell pl).trans (rowM_get hpl)
 have r2:=hbk.frozen pl
 have r3:=hbk.lt
 have hgl:(n.ad:Int) < (G.gb.length:Int):=by rw [hwf.gbl];omega
 have hpi:(pl:Int) < (G.nt:Int)+1:=by omega
 have hsh:=hwf.short
 have hgl2:G.gb.length≤1000000000:=by rw [hwf.gbl];exact hwf.few
 have cb:w.cell? ⟨G.wb,3,none⟩=some (.slice (some ⟨rb,ro,none⟩) G.gb.length G.bc):=by rw [←hba];exact (hs).wcell 3 (by decide)
 have hmd:decide (s.met (n.ad,pl,false)≠0)=false:=by simp [hm]
 rw [hmd] at r1
 obtain ⟨hf1,hs1⟩:=Wr.marked hwf hc hs (b:=false) (pl:=pl) (show (if false=true then G.gd else G.gb)[n.ad]?=some gg from hgg)
 have hc1:=hc.fr hf1
 have c1b:(w.setCell ⟨gg,pl,none⟩ (.bool true)).cell? ⟨G.wb,3,none⟩=some (.slice (some ⟨rb,ro,none⟩) G.gb.length G.bc):=by rw [←hba];exact hs1.wcell 3 (by decide)
 have d0:(w.setCell ⟨gg,pl,none⟩ (.bool true)).cell? ⟨G.wb,0,none⟩=some (.pointer (some ⟨G.tb,0,none⟩)):=hs1.wcell 0 (by decide)
 have d1:(w.setCell ⟨gg,pl,none⟩ (.bool true)).cell? ⟨G.wb,1,none⟩=some (.slice G.At G.nt G.ct):=hs1.wcell 1 (by decide)
 have dt:(w.setCell ⟨gg,pl,none⟩ (.bool true)).cell? ⟨G.tb,0,none⟩=some (.slice (some ⟨lb,lo,none⟩) G.L.length G.lc):=by rw [←HLA.out];exact hc1.tree.2.cell 0
 obtain ⟨p0,p1,p2,p3,p4,p5,p6,p7⟩:=hc1.cells8 hla hv
 have hb2:Below (w.setCell ⟨gg,pl,none⟩ (.bool true)).heap.size (w.setCell ⟨gg,pl,none⟩ (.bool true)) ((w.setCell ⟨gg,pl,none⟩ (.bool true)).alloc (.cells #[.int .i64 (102),.int .i64 va,.int .i64 vx,.slice ra rng.length rc,.slice sa vsubs.length sc,.bool lz,.int .i64 vup,.int .i64 vnth] 87)):=(zzb _ _).alloc (zzF _) _
 have hbx:=Blk.new (w.setCell ⟨gg,pl,none⟩ (.bool true)) 87 [.int .i64 (102),.int .i64 va,.int .i64 vx,.slice ra rng.length rc,.slice sa vsubs.length sc,.bool lz,.int .i64 vup,.int .i64 vnth]
 rw [show (w.setCell ⟨gg,pl,none⟩ (.bool true)).heap.size=w.heap.size from by simp [World.setCell]] at hbx
 have hst:=still_new hc1 hs1 hb2 (by simp)
 rw [show (w.setCell ⟨gg,pl,none⟩ (.bool true)).heap.size=w.heap.size from by simp [World.setCell]] at hst
 have hc2:=hc1.fr (hc1.below hb2)
 have hs2:=hs1.below hc1 hb2
 have hr2:=(hr.fr6 hf1).fr6 (hc1.below hb2)
 have e0:((w.setCell ⟨gg,pl,none⟩ (.bool true)).alloc (.cells #[.int .i64 (102),.int .i64 va,.int .i64 vx,.slice ra rng.length rc,.slice sa vsubs.length sc,.bool lz,.int .i64 vup,.int .i64 vnth] 87)).cell? ⟨G.wb,0,none⟩=some (.pointer (some ⟨G.tb,0,none⟩)):=hs2.wcell 0 (by decide)
 have e1:((w.setCell ⟨gg,pl,none⟩ (.bool true)).alloc (.cells #[.int .i64 (102),.int .i64 va,.int .i64 vx,.slice ra rng.length rc,.slice sa vsubs.length sc,.bool lz,.int .i64 vup,.int .i64 vnth] 87)).cell? ⟨G.wb,1,none⟩=some (.slice G.At G.nt G.ct):=hs2.wcell 1 (by decide)
 obtain ⟨x0,x1,x2,x3,x4,x5,x6,x7⟩:=bc8 (hbx)
 have hsv:vsubs[0]?=some sn.ad:=by rw [hvs,zza,hsn];rfl
 have HSV:=zzA hsv
 have HIN:=zzA (inT_at hn hsn)
 have hvl0:=(zzK.1 hsv).1
 have hvl1:(0:Int) < (vsubs.length:Int):=by omega
 clear hsv hsn
 have HN:=zzA hn
 have HWF:=zzA hwf
 have HC:=zzA hc
 have HS:=zzA hs
 have HPL:=zzA hpl
 have HLEN:=zzA hlen
 have HR:=zzA hr
 have HF2:=zzA (hf1.trans (hc1.below hb2))
 have HC2:=zzA hc2
 have HS2:=zzA hs2
 have HR2:=zzA hr2
 have HST:=zzA hst
 have HBX:=zzA hbx
 have HV:=zzA (zzL hv)
 have HH:=zzA h
 clear h hmd hm hc hs hr hn hwf hlen hv hvk hva hvx hvr hvs hvl hla hgg hba hrc hbk hf1 hs1 hc1 hb2 hbx hst hc2 hs2 hr2
 go_enter Try.func27,Try.ntmps27
 obtain ⟨sb,so,hsa,hsc⟩:=HC2.out.sub HV.out HSV.out
 simp only [] at hsa
 subst hsa
 rw [Nat.add_zero] at hsc
 go_wp2_with fail
 refine (HH.out HIN.out HPL.out HLEN.out _ _ _ HC2.out HS2.out HR2.out).mono ?_
 rintro e w9 ⟨rfl,hf9,hs9⟩
 simp only []
 go_wp2_with fail
 go_end0
 exact ⟨rfl,HF2.out.trans hf9,hs9⟩
set_option maxRecDepth 100000 in
set_option maxHeartbeats 4000000 in
theorem begin_q (G:Wr) (hwf:G.wf) (s s':Mean.St) (n:Mean.Un) (pl:Nat) (nt:List Int) (K:Mean.Kt) (hn:Mean.InT G.root n K) (hm:s.met (n.ad,pl,false)=0) (hkind:n.kind=-1) (h:G.chain (s.mark (n.ad,pl,false)) (Mean.choose n pl nt K K) s') (hpl:pl≤G.nt) (hlen:nt.length=G.NL) (w:World) (N:Option Addr) (c:Nat) (hc:G.cst w) (hs:G.st w s) (hr:RdA w (G.still w) 1 N G.NL c (nt.map (Value.int .i64))) :
  Calls Try.prog 27 #[.pointer (some ⟨G.wb,0,none⟩),.int .i64 (n.ad:Int),.int .i64 (pl:Int),.slice N G.NL c] w fun e w'=>e=.returned (.tuple #[])∧G.fr w w'∧G.st w' s':=by
 obtain ⟨⟨v,hv,hvk,hva,hvx,hvr,hvs,hvl⟩,-⟩:=hwf.rep n (Mean.inT_all hn)
 obtain ⟨kk,va,vx,ra,rc,rng,sa,sc,vsubs,lz,vup,vnth⟩:=v
 simp only [] at hvk hva hvx hvr hvs hvl
 obtain rfl:kk=103:=by rw [hvk,hkind];rfl
 have hnl2:=(zzK.1 hv).1
 obtain ⟨lb,lo,hla⟩:=hc.la (by omega)
 have HLA:=zzA hla
 have hfew:=hwf.few
 have hni:(n.ad:Int) < (G.L.length:Int):=by omega
 obtain ⟨gg,hgg⟩:∃ gg,G.gb[n.ad]?=some gg:=⟨_,zzJ (by rw [hwf.gbl];exact hnl2)⟩
 obtain ⟨rb,ro,hba,hrc⟩:=hc.row hgg
 have hbk:=hs.beg n.ad gg hgg
 have r0:w.cell? ⟨rb,ro+n.ad,none⟩=some (.slice (some ⟨gg,0,none⟩) (G.nt+1) (G.nt+1)):=hrc
 have r1:w.cell? ⟨gg,pl,none⟩=some (.bool (decide (s.met (n.ad,pl,false)≠0))):=(hbk.cell pl).trans (rowM_get hpl)
 have r2:=hbk.frozen pl
 have r3:=hbk.lt
 have hgl:(n.ad:Int) < (G.gb.length:Int):=by rw [hwf.gbl];omega
 have hpi:(pl:Int) < (G.nt:Int)+1:=by omega
 have hsh:=hwf.short
 have hgl2:G.gb.length≤1000000000:=by rw [hwf.gbl];exact hwf.few
 have cb:w.cell? ⟨G.wb,3,none⟩=some (.slice (some ⟨rb,ro,none⟩) G.gb.length G.bc):=by rw [←hba];exact (hs).wcell 3 (by decide)
 have hmd:decide (s.met (n.ad,pl,false)≠0)=false:=by simp [hm]
 rw [hmd] at r1
 obtain ⟨hf1,hs1⟩:=Wr.marked hwf hc hs (b:=false) (pl:=pl) (show (if false=true then G.gd else G.gb)[n.ad]?=some gg from hgg)
 have hc1:=hc.fr hf1
 have c1b:(w.setCell ⟨gg,pl,none⟩ (.bool true)).cell? ⟨G.wb,3,none⟩=some (.slice (some ⟨rb,ro,none⟩) G.gb.length G.bc):=by rw [←hba];exact hs1.wcell 3 (by decide)
 have d0:(w.setCell ⟨gg,pl,none⟩ (.bool true)).cell? ⟨G.wb,0,none⟩=some (.pointer (some ⟨G.tb,0,none⟩)):=hs1.wcell 0 (by decide)
 have d1:(w.setCell ⟨gg,pl,none⟩ (.bool true)).cell? ⟨G.wb,1,none⟩=some (.slice G.At G.nt G.ct):=hs1.wcell 1 (by decide)
 have dt:(w.setCell ⟨gg,pl,none⟩ (.bool true)).cell? ⟨G.tb,0,none⟩=some (.slice (some ⟨lb,lo,none⟩) G.L.length G.lc):=by rw [←HLA.out];exact hc1.tree.2.cell 0
 obtain ⟨p0,p1,p2,p3,p4,p5,p6,p7⟩:=hc1.cells8 hla hv
 have hb2:Below (w.setCell ⟨gg,pl,none⟩ (.bool true)).heap.size (w.setCell ⟨gg,pl,none⟩ (.bool true)) ((w.setCell ⟨gg,pl,none⟩ (.bool true)).alloc (.cells #[.int .i64 (103),.int .i64 va,.int .i64 vx,.slice ra rng.length rc,.slice sa vsubs.length sc,.bool lz,.int .i64 vup,.int .i64 vnth] 87)):=(zzb _ _).alloc (zzF _) _
 have hbx:=Blk.new (w.setCell ⟨gg,pl,none⟩ (.bool true)) 87 [.int .i64 (103),.int .i64 va,.int .i64 vx,.slice ra rng.length rc,.slice sa vsubs.length sc,.bool lz,.int .i64 vup,.int .i64 vnth]
 rw [show (w.setCell ⟨gg,pl,none⟩ (.bool true)).heap.size=w.heap.size from by simp [World.setCell]] at hbx
 have hst:=still_new hc1 hs1 hb2 (by simp)
 rw [show (w.setCell ⟨gg,pl,none⟩ (.bool true)).heap.size=w.heap.size from by simp [World.setCell]] at hst
 have hc2:=hc1.fr (hc1.below hb2)
 have hs2:=hs1.below hc1 hb2
 have hr2:=(hr.fr6 hf1).fr6 (hc1.below hb2)
 have e0:((w.setCell ⟨gg,pl,none⟩ (.bool true)).alloc (.cells #[.int .i64 (103),.int .i64 va,.int .i64 vx,.slice ra rng.length rc,.slice sa vsubs.length sc,.bool lz,.int .i64 vup,.int .i64 vnth] 87)).cell? ⟨G.wb,0,none⟩=some (.pointer (some ⟨G.tb,0,none⟩)):=hs2.wcell 0 (by decide)
 have e1:((w.setCell ⟨gg,pl,none⟩ (.bool true)).alloc (.cells #[.int .i64 (103),.int .i64 va,.int .i64 vx,.slice ra rng.length rc,.slice sa vsubs.length sc,.bool lz,.int .i64 vup,.int .i64 vnth] 87)).cell? ⟨G.wb,1,none⟩=some (.slice G.At G.nt G.ct):=hs2.wcell 1 (by decide)
 obtain ⟨x0,x1,x2,x3,x4,x5,x6,x7⟩:=bc8 (hbx)
 have HKI:=zzA hkind
 have HN:=zzA hn
 have HWF:=zzA hwf
 have HC:=zzA hc
 have HS:=zzA hs
 have HPL:=zzA hpl
 have HLEN:=zzA hlen
 have HR:=zzA hr
 have HF2:=zzA (hf1.trans (hc1.below hb2))
 have HC2:=zzA hc2
 have HS2:=zzA hs2
 have HR2:=zzA hr2
 have HST:=zzA hst
 have HBX:=zzA hbx
 have HV:=zzA (zzL hv)
 have HH:=zzA h
 clear h hmd hm hc hs hr hn hwf hlen hv hvk hva hvx hvr hvs hvl hla hgg hba hrc hbk hf1 hs1 hc1 hb2 hbx hst hc2 hs2 hr2
 go_enter Try.func27,Try.ntmps27
 go_wp2_with fail
 refine (choose6_any G HWF.out (s.mark (n.ad,pl,false)) s' n pl nt K HN.out (.inl HKI.out) (by
  have e:Mean.kidK n K=K:=by unfold Mean.kidK;rw [if_neg (by rw [HKI.out];decide),if_neg (by rw [HKI.out];decide)]
  rw [e];exact HH.out) HPL.out HLEN.out _ N c HC2.out HS2.out HR2.out).mono ?_
 rintro e w9 ⟨rfl,hf9,hs9⟩
 simp only []
 go_wp2_with fail
 go_end0
 exact ⟨rfl,HF2.out.trans hf9,hs9⟩
set_option maxRecDepth 100000 in
set_option maxHeartbeats 4000000 in
theorem begin_s (G:Wr) (hwf:G.wf) (s s':Mean.St) (n:Mean.Un) (pl:Nat) (nt:List Int) (K:Mean.Kt) (hn:Mean.InT G.root n K) (hm:s.met (n.ad,pl,false)=0) (hkind:n.kind=-2) (h:G.does (s.mark (n.ad,pl,false)) (.dcd n pl nt K) s') (hpl:pl≤G.nt) (hlen:nt.length=G.NL) (w:World) (N:Option Addr) (c:Nat) (hc:G.cst w) (hs:G.st w s) (hr:RdA w (G.still w) 1 N G.NL c (nt.map (Value.int .i64))) :
  Calls Try.prog 27 #[.pointer (some ⟨G.wb,0,none⟩),.int .i64 (n.ad:Int),.int .i64 (pl:Int),.slice N G.NL c] w fun e w'=>e=.returned (.tuple #[])∧G.fr w w'∧G.st w' s':=by
 obtain ⟨⟨v,hv,hvk,hva,hvx,hvr,hvs,hvl⟩,-⟩:=hwf.rep n (Mean.inT_all hn)
 obtain ⟨kk,va,vx,ra,rc,rng,sa,sc,vsubs,lz,vup,vnth⟩:=v
 simp only [] at hvk hva hvx hvr hvs hvl
 obtain rfl:kk=101:=by rw [hvk,hkind];rfl
 have hnl2:=(zzK.1 hv).1
 obtain ⟨lb,lo,hla⟩:=hc.la (by omega)
 have HLA:=zzA hla
 have hfew:=hwf.few
 have hni:(n.ad:Int) < (G.L.length:Int):=by omega
 obtain ⟨gg,hgg⟩:∃ gg,G.gb[n.ad]?=some gg:=⟨_,zzJ (by rw [hwf.gbl];exact hnl2)⟩
 obtain ⟨rb,ro,hba,hrc⟩:=hc.row hgg
 have hbk:=hs.beg n.ad gg hgg
 have r0:w.cell? ⟨rb,ro+n.ad,none⟩=some (.slice (some ⟨gg,0,none⟩) (G.nt+1) (G.nt+1)):=hrc
 have r1:w.cell? ⟨gg,pl,none⟩=some (.bool (decide (s.met (n.ad,pl,false)≠0))):=(hbk.cell pl).trans (rowM_get hpl)
 have r2:=hbk.frozen pl
 have r3:=hbk.lt
 have hgl:(n.ad:Int) < (G.gb.length:Int):=by rw [hwf.gbl];omega
 have hpi:(pl:Int) < (G.nt:Int)+1:=by omega
 have hsh:=hwf.short
 have hgl2:G.gb.length≤1000000000:=by rw [hwf.gbl];exact hwf.few
 have cb:w.cell? ⟨G.wb,3,none⟩=some (.slice (some ⟨rb,ro,none⟩) G.gb.length G.bc):=by rw [←hba];exact (hs).wcell 3 (by decide)
 have hmd:decide (s.met (n.ad,pl,false)≠0)=false:=by simp [hm]
 rw [hmd] at r1
 obtain ⟨hf1,hs1⟩:=Wr.marked hwf hc hs (b:=false) (pl:=pl) (show (if false=true then G.gd else G.gb)[n.ad]?=some gg from hgg)
 have hc1:=hc.fr hf1
 have c1b:(w.setCell ⟨gg,pl,none⟩ (.bool true)).cell? ⟨G.wb,3,none⟩=some (.slice (some ⟨rb,ro,none⟩) G.gb.length G.bc):=by rw [←hba];exact hs1.wcell 3 (by decide)
 have d0:(w.setCell ⟨gg,pl,none⟩ (.bool true)).cell? ⟨G.wb,0,none⟩=some (.pointer (some ⟨G.tb,0,none⟩)):=hs1.wcell 0 (by decide)
 have d1:(w.setCell ⟨gg,pl,none⟩ (.bool true)).cell? ⟨G.wb,1,none⟩=some (.slice G.At G.nt G.ct):=hs1.wcell 1 (by decide)
 have dt:(w.setCell ⟨gg,pl,none⟩ (.bool true)).cell? ⟨G.tb,0,none⟩=some (.slice (some ⟨lb,lo,none⟩) G.L.length G.lc):=by rw [←HLA.out];exact hc1.tree.2.cell 0
 obtain ⟨p0,p1,p2,p3,p4,p5,p6,p7⟩:=hc1.cells8 hla hv
 have hb2:Below (w.setCell ⟨gg,pl,none⟩ (.bool true)).heap.size (w.setCell ⟨gg,pl,none⟩ (.bool true)) ((w.setCell ⟨gg,pl,none⟩ (.bool true)).alloc (.cells #[.int .i64 (101),.int .i64 va,.int .i64 vx,.slice ra rng.length rc,.slice sa vsubs.length sc,.bool lz,.int .i64 vup,.int .i64 vnth] 87)):=(zzb _ _).alloc (zzF _) _
 have hbx:=Blk.new (w.setCell ⟨gg,pl,none⟩ (.bool true)) 87 [.int .i64 (101),.int .i64 va,.int .i64 vx,.slice ra rng.length rc,.slice sa vsubs.length sc,.bool lz,.int .i64 vup,.int .i64 vnth]
 rw [show (w.setCell ⟨gg,pl,none⟩ (.bool true)).heap.size=w.heap.size from by simp [World.setCell]] at hbx
 have hst:=still_new hc1 hs1 hb2 (by simp)
 rw [show (w.setCell ⟨gg,pl,none⟩ (.bool true)).heap.size=w.heap.size from by simp [World.setCell]] at hst
 have hc2:=hc1.fr (hc1.below hb2)
 have hs2:=hs1.below hc1 hb2
 have hr2:=(hr.fr6 hf1).fr6 (hc1.below hb2)
 have e0:((w.setCell ⟨gg,pl,none⟩ (.bool true)).alloc (.cells #[.int .i64 (101),.int .i64 va,.int .i64 vx,.slice ra rng.length rc,.slice sa vsubs.length sc,.bool lz,.int .i64 vup,.int .i64 vnth] 87)).cell? ⟨G.wb,0,none⟩=some (.pointer (some ⟨G.tb,0,none⟩)):=hs2.wcell 0 (by decide)
 have e1:((w.setCell ⟨gg,pl,none⟩ (.bool true)).alloc (.cells #[.int .i64 (101),.int .i64 va,.int .i64 vx,.slice ra rng.length rc,.slice sa vsubs.length sc,.bool lz,.int .i64 vup,.int .i64 vnth] 87)).cell? ⟨G.wb,1,none⟩=some (.slice G.At G.nt G.ct):=hs2.wcell 1 (by decide)
 obtain ⟨x0,x1,x2,x3,x4,x5,x6,x7⟩:=bc8 (hbx)
 have HKI:=zzA hkind
 have HN:=zzA hn
 have HWF:=zzA hwf
 have HC:=zzA hc
 have HS:=zzA hs
 have HPL:=zzA hpl
 have HLEN:=zzA hlen
 have HR:=zzA hr
 have HF2:=zzA (hf1.trans (hc1.below hb2))
 have HC2:=zzA hc2
 have HS2:=zzA hs2
 have HR2:=zzA hr2
 have HST:=zzA hst
 have HBX:=zzA hbx
 have HV:=zzA (zzL hv)
 have HH:=zzA h
 clear h hmd hm hc hs hr hn hwf hlen hv hvk hva hvx hvr hvs hvl hla hgg hba hrc hbk hf1 hs1 hc1 hb2 hbx hst hc2 hs2 hr2
 go_enter Try.func27,Try.ntmps27
 go_wp2_with fail
 refine (HH.out HN.out (.inl HKI.out) HPL.out HLEN.out _ _ _ HC2.out HS2.out HR2.out).mono ?_
 rintro e w9 ⟨rfl,hf9,hs9⟩
 simp only []
 go_wp2_with fail
 go_end0
 exact ⟨rfl,HF2.out.trans hf9,hs9⟩
end Go.Proofs.Ytkhkllpdhnmhkaa
