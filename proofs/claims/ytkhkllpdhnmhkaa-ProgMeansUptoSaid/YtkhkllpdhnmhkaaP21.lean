/- heronref06's walker.behind: all ways. -/
import Derived.Test.YtkhkllpdhnmhkaaP14
import Derived.Test.YtkhkllpdhnmhkaaP19
import Derived.Test.YtkhkllpdhnmhkaaP20
namespace Go.Proofs.Ytkhkllpdhnmhkaa
open Go.RowKit
theorem kind_list {G:Wr} (hwf:G.wf) {p:Mean.Un} (hp:p∈G.root.all):p.kind=1∨p.kind=2∨p.kind=3∨p.kind=4∨p.kind=5∨p.kind=7∨p.kind=-1∨p.kind=-2∨p.kind=-3:=by
 obtain ⟨g,-,h⟩:=hwf.ok
 exact (h p hp).1
theorem behind_any (G:Wr) (hwf:G.wf) (s s':Mean.St) (K:Mean.Kt) (pl:Nat) (nt:List Int) (h:G.chain (Mean.work G.t G.at_ s (.go K pl nt)).1 (Mean.work G.t G.at_ s (.go K pl nt)).2 s'):G.does s (.go K pl nt) s':=by
 intro n hn hpl hlen
 have key:∀ (m:Nat) (n:Mean.Un),G.L.length - n.ad≤m→Mean.InT G.root n K→∀ (w:World) (N:Option Addr) (c:Nat),G.cst w→G.st w s→RdA w (G.still w) 1 N G.NL c (nt.map (Value.int .i64)) →
   Calls Try.prog 39 #[.pointer (some ⟨G.wb,0,none⟩),.int .i64 (n.ad:Int),.int .i64 (pl:Int),.slice N G.NL c] w fun e w'=>e=.returned (.tuple #[])∧G.fr w w'∧G.st w' s':=by
  intro m
  induction m with
  | zero =>
   intro n hm hn
   obtain ⟨⟨v,hv,-⟩,-⟩:=hwf.rep n (Mean.inT_all hn)
   have:=(zzK.1 hv).1
   omega
  | succ m ih =>
   intro n hm hn w N c hc hs hr
   rcases pos_up G.root .top n K hn with ⟨rfl,e⟩ | ⟨p,Kp,i,hp,hi,e⟩
   ·rw [e] at h
    exact behind_top G hwf s s' pl nt h hpl hlen w N c hc hs hr
   have hp:Mean.InT G.root p Kp:=hp
   have hpn:n.ad < p.ad:=((hwf.rep p (Mean.inT_all hp)).kids i n hi).1
   by_cases k4:p.kind=4
   ·rw [e,kidAt,if_pos k4] at h
    obtain ⟨s1,h1,rfl⟩:=h
    by_cases hsn:i+1 < p.subs.length
    ·rw [List.drop_eq_getElem_cons hsn] at h1
     exact behind_next G hwf _ _ n p Kp i pl nt hp hi k4 (p.subs[i+1]'hsn) (zzJ hsn) h1 hpl hlen w N c hc hs hr
    ·rw [List.drop_eq_nil_of_le (by omega)] at h1
     exact behind_last G hwf _ _ n p Kp i pl nt hp hi k4 hsn h1 hpl hlen w N c hc hs hr
   by_cases k7:p.kind=7
   ·rw [e,kidAt,if_neg k4,Mean.kidK,if_pos k7] at h
    obtain ⟨s1,h1,rfl⟩:=h
    exact behind_grp G hwf _ _ n p Kp i pl nt hp hi k7 h1 hpl hlen w N c hc hs hr
   by_cases k2:p.kind=-2
   ·rw [e,kidAt,if_neg k4,Mean.kidK,if_neg k7,if_pos (.inl k2)] at h
    obtain ⟨s1,h1,rfl⟩:=h
    exact behind_decs G hwf _ _ n p Kp i pl nt hp hi k2 h1 hpl hlen w N c hc hs hr
   by_cases k3:p.kind=-3
   ·rw [e,kidAt,if_neg k4,Mean.kidK,if_neg k7,if_pos (.inr k3)] at h
    obtain ⟨s1,h1,rfl⟩:=h
    exact behind_decp G hwf _ _ n p Kp i pl nt hp hi k3 h1 hpl hlen w N c hc hs hr
   have eK:kidAt p i Kp=Kp:=by rw [kidAt,if_neg k4,Mean.kidK,if_neg k7,if_neg (by omega)]
   rw [eK] at e
   have hkr:kindR p.kind≠4∧kindR p.kind≠7∧kindR p.kind≠101∧kindR p.kind≠102:=by
    have:=kind_list hwf (Mean.inT_all hp)
    unfold kindR
    rcases this with h | h | h | h | h | h | h | h | h
    all_goals (first | (exact absurd h k4) | (exact absurd h k7) | (exact absurd h k2) | (exact absurd h k3) | (rw [h];decide))
   exact behind_up G hwf s s' n p Kp i pl nt hp hi hkr (fun w N c hc hs hr=>ih p (by omega) (by rw [e];exact hp) w N c hc hs hr) hpl hlen w N c hc hs hr
 intro w N c hc hs hr
 exact key _ n (zzF _) hn w N c hc hs hr
end Go.Proofs.Ytkhkllpdhnmhkaa
namespace Go.Proofs.Ytkhkllpdhnmhkaa
open Go.RowKit
set_option maxRecDepth 100000 in
set_option maxHeartbeats 4000000 in
theorem begin_met (G:Wr) (hwf:G.wf) (s s':Mean.St) (n:Mean.Un) (pl:Nat) (nt:List Int) (K:Mean.Kt) (hn:Mean.InT G.root n K) (hm:s.met (n.ad,pl,false)≠0) (h:s'=s.mark (n.ad,pl,false)) (hpl:pl≤G.nt) (hlen:nt.length=G.NL) (w:World) (N:Option Addr) (c:Nat) (hc:G.cst w) (hs:G.st w s) (hr:RdA w (G.still w) 1 N G.NL c (nt.map (Value.int .i64))) :
  Calls Try.prog 27 #[.pointer (some ⟨G.wb,0,none⟩),.int .i64 (n.ad:Int),.int .i64 (pl:Int),.slice N G.NL c] w fun e w'=>e=.returned (.tuple #[])∧G.fr w w'∧G.st w' s':=by
 obtain ⟨⟨v,hv,hvk,hva,hvx,hvr,hvs,hvl⟩,-⟩:=hwf.rep n (Mean.inT_all hn)
 obtain ⟨kk,va,vx,ra,rc,rng,sa,sc,vsubs,lz,vup,vnth⟩:=v
 simp only [] at hvk hva hvx hvr hvs hvl
 have hnl2:=(zzK.1 hv).1
 obtain ⟨lb,lo,hla⟩:=hc.la (by omega)
 have HLA:=zzA hla
 have hfew:=hwf.few
 have hni:(n.ad:Int) < (G.L.length:Int):=by omega
 obtain ⟨gg,hgg⟩:∃ gg,G.gb[n.ad]?=some gg:=⟨_,zzJ (by rw [hwf.gbl];exact hnl2)⟩
 obtain ⟨rb,ro,hba,hrc⟩:=hc.row hgg
 have hbk:=hs.beg n.ad gg hgg
 have r0:w.cell? ⟨rb,ro+n.ad,none⟩=some (.slice (some ⟨gg,0,none⟩) (G.nt+1) (G.nt+1)):=hrc
 have r1:w.cell? ⟨gg,pl,none⟩=some (.bool (decide (s.met (n.ad,pl,false)≠0))):=(hbk.cell pl).trans (rowM_get hpl)
 have r2:=hbk.frozen pl
 have r3:=hbk.lt
 have hgl:(n.ad:Int) < (G.gb.length:Int):=by rw [hwf.gbl];omega
 have hpi:(pl:Int) < (G.nt:Int)+1:=by omega
 have hsh:=hwf.short
 have hgl2:G.gb.length≤1000000000:=by rw [hwf.gbl];exact hwf.few
 have cb:w.cell? ⟨G.wb,3,none⟩=some (.slice (some ⟨rb,ro,none⟩) G.gb.length G.bc):=by rw [←hba];exact (hs).wcell 3 (by decide)
 have HN:=zzA hn
 have HWF:=zzA hwf
 have HC:=zzA hc
 have HS:=zzA hs
 have HPL:=zzA hpl
 have HLEN:=zzA hlen
 have HR:=zzA hr
 have hmd:decide (s.met (n.ad,pl,false)≠0)=true:=by simp [hm]
 rw [hmd] at r1
 have HH:=zzA h
 have HM:=zzA hm
 clear h hmd hm hc hs hr hn hwf hlen hv hvk hva hvx hvr hvs hvl hla hgg hba hrc hbk
 go_enter Try.func27,Try.ntmps27
 go_wp2_with fail
 refine bodyPost_ret (results_none rfl _ _ _) rfl ?_
 exact ⟨rfl,HC.out.below (zzb _ _),by rw [HH.out];exact Wr.again HS.out HM.out⟩
set_option maxRecDepth 100000 in
set_option maxHeartbeats 4000000 in
theorem begin_1 (G:Wr) (hwf:G.wf) (s s':Mean.St) (n:Mean.Un) (pl:Nat) (nt:List Int) (K:Mean.Kt) (hn:Mean.InT G.root n K) (hm:s.met (n.ad,pl,false)=0) (hkind:n.kind=1) (h:G.chain (s.mark (n.ad,pl,false)) [.go K pl nt] s') (hpl:pl≤G.nt) (hlen:nt.length=G.NL) (w:World) (N:Option Addr) (c:Nat) (hc:G.cst w) (hs:G.st w s) (hr:RdA w (G.still w) 1 N G.NL c (nt.map (Value.int .i64))) :
  Calls Try.prog 27 #[.pointer (some ⟨G.wb,0,none⟩),.int .i64 (n.ad:Int),.int .i64 (pl:Int),.slice N G.NL c] w fun e w'=>e=.returned (.tuple #[])∧G.fr w w'∧G.st w' s':=by
 obtain ⟨⟨v,hv,hvk,hva,hvx,hvr,hvs,hvl⟩,-⟩:=hwf.rep n (Mean.inT_all hn)
 obtain ⟨kk,va,vx,ra,rc,rng,sa,sc,vsubs,lz,vup,vnth⟩:=v
 simp only [] at hvk hva hvx hvr hvs hvl
 obtain rfl:kk=1:=by rw [hvk,hkind];rfl
 have hnl2:=(zzK.1 hv).1
 obtain ⟨lb,lo,hla⟩:=hc.la (by omega)
 have HLA:=zzA hla
 have hfew:=hwf.few
 have hni:(n.ad:Int) < (G.L.length:Int):=by omega
 obtain ⟨gg,hgg⟩:∃ gg,G.gb[n.ad]?=some gg:=⟨_,zzJ (by rw [hwf.gbl];exact hnl2)⟩
 obtain ⟨rb,ro,hba,hrc⟩:=hc.row hgg
 have hbk:=hs.beg n.ad gg hgg
 have r0:w.cell? ⟨rb,ro+n.ad,none⟩=some (.slice (some ⟨gg,0,none⟩) (G.nt+1) (G.nt+1)):=hrc
 have r1:w.cell? ⟨gg,pl,none⟩=some (.bool (decide (s.met (n.ad,pl,false)≠0))):=(hbk.cell pl).trans (rowM_get hpl)
 have r2:=hbk.frozen pl
 have r3:=hbk.lt
 have hgl:(n.ad:Int) < (G.gb.length:Int):=by rw [hwf.gbl];omega
 have hpi:(pl:Int) < (G.nt:Int)+1:=by omega
 have hsh:=hwf.short
 have hgl2:G.gb.length≤1000000000:=by rw [hwf.gbl];exact hwf.few
 have cb:w.cell? ⟨G.wb,3,none⟩=some (.slice (some ⟨rb,ro,none⟩) G.gb.length G.bc):=by rw [←hba];exact (hs).wcell 3 (by decide)
 have hmd:decide (s.met (n.ad,pl,false)≠0)=false:=by simp [hm]
 rw [hmd] at r1
 obtain ⟨hf1,hs1⟩:=Wr.marked hwf hc hs (b:=false) (pl:=pl) (show (if false=true then G.gd else G.gb)[n.ad]?=some gg from hgg)
 have hc1:=hc.fr hf1
 have c1b:(w.setCell ⟨gg,pl,none⟩ (.bool true)).cell? ⟨G.wb,3,none⟩=some (.slice (some ⟨rb,ro,none⟩) G.gb.length G.bc):=by rw [←hba];exact hs1.wcell 3 (by decide)
 have d0:(w.setCell ⟨gg,pl,none⟩ (.bool true)).cell? ⟨G.wb,0,none⟩=some (.pointer (some ⟨G.tb,0,none⟩)):=hs1.wcell 0 (by decide)
 have d1:(w.setCell ⟨gg,pl,none⟩ (.bool true)).cell? ⟨G.wb,1,none⟩=some (.slice G.At G.nt G.ct):=hs1.wcell 1 (by decide)
 have dt:(w.setCell ⟨gg,pl,none⟩ (.bool true)).cell? ⟨G.tb,0,none⟩=some (.slice (some ⟨lb,lo,none⟩) G.L.length G.lc):=by rw [←HLA.out];exact hc1.tree.2.cell 0
 obtain ⟨p0,p1,p2,p3,p4,p5,p6,p7⟩:=hc1.cells8 hla hv
 have hb2:Below (w.setCell ⟨gg,pl,none⟩ (.bool true)).heap.size (w.setCell ⟨gg,pl,none⟩ (.bool true)) ((w.setCell ⟨gg,pl,none⟩ (.bool true)).alloc (.cells #[.int .i64 (1),.int .i64 va,.int .i64 vx,.slice ra rng.length rc,.slice sa vsubs.length sc,.bool lz,.int .i64 vup,.int .i64 vnth] 87)):=(zzb _ _).alloc (zzF _) _
 have hbx:=Blk.new (w.setCell ⟨gg,pl,none⟩ (.bool true)) 87 [.int .i64 (1),.int .i64 va,.int .i64 vx,.slice ra rng.length rc,.slice sa vsubs.length sc,.bool lz,.int .i64 vup,.int .i64 vnth]
 rw [show (w.setCell ⟨gg,pl,none⟩ (.bool true)).heap.size=w.heap.size from by simp [World.setCell]] at hbx
 have hst:=still_new hc1 hs1 hb2 (by simp)
 rw [show (w.setCell ⟨gg,pl,none⟩ (.bool true)).heap.size=w.heap.size from by simp [World.setCell]] at hst
 have hc2:=hc1.fr (hc1.below hb2)
 have hs2:=hs1.below hc1 hb2
 have hr2:=(hr.fr6 hf1).fr6 (hc1.below hb2)
 have e0:((w.setCell ⟨gg,pl,none⟩ (.bool true)).alloc (.cells #[.int .i64 (1),.int .i64 va,.int .i64 vx,.slice ra rng.length rc,.slice sa vsubs.length sc,.bool lz,.int .i64 vup,.int .i64 vnth] 87)).cell? ⟨G.wb,0,none⟩=some (.pointer (some ⟨G.tb,0,none⟩)):=hs2.wcell 0 (by decide)
 have e1:((w.setCell ⟨gg,pl,none⟩ (.bool true)).alloc (.cells #[.int .i64 (1),.int .i64 va,.int .i64 vx,.slice ra rng.length rc,.slice sa vsubs.length sc,.bool lz,.int .i64 vup,.int .i64 vnth] 87)).cell? ⟨G.wb,1,none⟩=some (.slice G.At G.nt G.ct):=hs2.wcell 1 (by decide)
 obtain ⟨x0,x1,x2,x3,x4,x5,x6,x7⟩:=bc8 (hbx)
 have HN:=zzA hn
 have HWF:=zzA hwf
 have HC:=zzA hc
 have HS:=zzA hs
 have HPL:=zzA hpl
 have HLEN:=zzA hlen
 have HR:=zzA hr
 have HF2:=zzA (hf1.trans (hc1.below hb2))
 have HC2:=zzA hc2
 have HS2:=zzA hs2
 have HR2:=zzA hr2
 have HST:=zzA hst
 have HBX:=zzA hbx
 have HV:=zzA (zzL hv)
 have HH:=zzA h
 clear h hmd hm hc hs hr hn hwf hlen hv hvk hva hvx hvr hvs hvl hla hgg hba hrc hbk hf1 hs1 hc1 hb2 hbx hst hc2 hs2 hr2
 go_enter Try.func27,Try.ntmps27
 obtain ⟨s1,h1,e1⟩:=HH.out
 have HH1:=zzA h1
 have HE1:=zzA e1
 clear h1 e1
 go_wp2_with fail
 refine (HH1.out n HN.out HPL.out HLEN.out _ _ _ HC2.out HS2.out HR2.out).mono ?_
 rintro e w9 ⟨rfl,hf9,hs9⟩
 simp only []
 go_wp2_with fail
 go_end0
 exact ⟨rfl,HF2.out.trans hf9,by rw [HE1.out];exact hs9⟩
end Go.Proofs.Ytkhkllpdhnmhkaa
namespace Go.Proofs.Ytkhkllpdhnmhkaa
open Go.RowKit
set_option maxRecDepth 100000 in
set_option maxHeartbeats 4000000 in
theorem begin_5 (G:Wr) (hwf:G.wf) (s s':Mean.St) (n:Mean.Un) (pl:Nat) (nt:List Int) (K:Mean.Kt) (hn:Mean.InT G.root n K) (hm:s.met (n.ad,pl,false)=0) (hkind:n.kind=5) (h:G.chain (s.mark (n.ad,pl,false)) (n.subs.map fun x=>Mean.Task.beg x pl nt K) s') (hpl:pl≤G.nt) (hlen:nt.length=G.NL) (w:World) (N:Option Addr) (c:Nat) (hc:G.cst w) (hs:G.st w s) (hr:RdA w (G.still w) 1 N G.NL c (nt.map (Value.int .i64))) :
  Calls Try.prog 27 #[.pointer (some ⟨G.wb,0,none⟩),.int .i64 (n.ad:Int),.int .i64 (pl:Int),.slice N G.NL c] w fun e w'=>e=.returned (.tuple #[])∧G.fr w w'∧G.st w' s':=by
 obtain ⟨⟨v,hv,hvk,hva,hvx,hvr,hvs,hvl⟩,-⟩:=hwf.rep n (Mean.inT_all hn)
 obtain ⟨kk,va,vx,ra,rc,rng,sa,sc,vsubs,lz,vup,vnth⟩:=v
 simp only [] at hvk hva hvx hvr hvs hvl
 obtain rfl:kk=5:=by rw [hvk,hkind];rfl
 have hnl2:=(zzK.1 hv).1
 obtain ⟨lb,lo,hla⟩:=hc.la (by omega)
 have HLA:=zzA hla
 have hfew:=hwf.few
 have hni:(n.ad:Int) < (G.L.length:Int):=by omega
 obtain ⟨gg,hgg⟩:∃ gg,G.gb[n.ad]?=some gg:=⟨_,zzJ (by rw [hwf.gbl];exact hnl2)⟩
 obtain ⟨rb,ro,hba,hrc⟩:=hc.row hgg
 have hbk:=hs.beg n.ad gg hgg
 have r0:w.cell? ⟨rb,ro+n.ad,none⟩=some (.slice (some ⟨gg,0,none⟩) (G.nt+1) (G.nt+1)):=hrc
 have r1:w.cell? ⟨gg,pl,none⟩=some (.bool (decide (s.met (n.ad,pl,false)≠0))):=(hbk.cell pl).trans (rowM_get hpl)
 have r2:=hbk.frozen pl
 have r3:=hbk.lt
 have hgl:(n.ad:Int) < (G.gb.length:Int):=by rw [hwf.gbl];omega
 have hpi:(pl:Int) < (G.nt:Int)+1:=by omega
 have hsh:=hwf.short
 have hgl2:G.gb.length≤1000000000:=by rw [hwf.gbl];exact hwf.few
 have cb:w.cell? ⟨G.wb,3,none⟩=some (.slice (some ⟨rb,ro,none⟩) G.gb.length G.bc):=by rw [←hba];exact (hs).wcell 3 (by decide)
 have hmd:decide (s.met (n.ad,pl,false)≠0)=false:=by simp [hm]
 rw [hmd] at r1
 obtain ⟨hf1,hs1⟩:=Wr.marked hwf hc hs (b:=false) (pl:=pl) (show (if false=true then G.gd else G.gb)[n.ad]?=some gg from hgg)
 have hc1:=hc.fr hf1
 have c1b:(w.setCell ⟨gg,pl,none⟩ (.bool true)).cell? ⟨G.wb,3,none⟩=some (.slice (some ⟨rb,ro,none⟩) G.gb.length G.bc):=by rw [←hba];exact hs1.wcell 3 (by decide)
 have d0:(w.setCell ⟨gg,pl,none⟩ (.bool true)).cell? ⟨G.wb,0,none⟩=some (.pointer (some ⟨G.tb,0,none⟩)):=hs1.wcell 0 (by decide)
 have d1:(w.setCell ⟨gg,pl,none⟩ (.bool true)).cell? ⟨G.wb,1,none⟩=some (.slice G.At G.nt G.ct):=hs1.wcell 1 (by decide)
 have dt:(w.setCell ⟨gg,pl,none⟩ (.bool true)).cell? ⟨G.tb,0,none⟩=some (.slice (some ⟨lb,lo,none⟩) G.L.length G.lc):=by rw [←HLA.out];exact hc1.tree.2.cell 0
 obtain ⟨p0,p1,p2,p3,p4,p5,p6,p7⟩:=hc1.cells8 hla hv
 have hb2:Below (w.setCell ⟨gg,pl,none⟩ (.bool true)).heap.size (w.setCell ⟨gg,pl,none⟩ (.bool true)) ((w.setCell ⟨gg,pl,none⟩ (.bool true)).alloc (.cells #[.int .i64 (5),.int .i64 va,.int .i64 vx,.slice ra rng.length rc,.slice sa vsubs.length sc,.bool lz,.int .i64 vup,.int .i64 vnth] 87)):=(zzb _ _).alloc (zzF _) _
 have hbx:=Blk.new (w.setCell ⟨gg,pl,none⟩ (.bool true)) 87 [.int .i64 (5),.int .i64 va,.int .i64 vx,.slice ra rng.length rc,.slice sa vsubs.length sc,.bool lz,.int .i64 vup,.int .i64 vnth]
 rw [show (w.setCell ⟨gg,pl,none⟩ (.bool true)).heap.size=w.heap.size from by simp [World.setCell]] at hbx
 have hst:=still_new hc1 hs1 hb2 (by simp)
 rw [show (w.setCell ⟨gg,pl,none⟩ (.bool true)).heap.size=w.heap.size from by simp [World.setCell]] at hst
 have hc2:=hc1.fr (hc1.below hb2)
 have hs2:=hs1.below hc1 hb2
 have hr2:=(hr.fr6 hf1).fr6 (hc1.below hb2)
 have e0:((w.setCell ⟨gg,pl,none⟩ (.bool true)).alloc (.cells #[.int .i64 (5),.int .i64 va,.int .i64 vx,.slice ra rng.length rc,.slice sa vsubs.length sc,.bool lz,.int .i64 vup,.int .i64 vnth] 87)).cell? ⟨G.wb,0,none⟩=some (.pointer (some ⟨G.tb,0,none⟩)):=hs2.wcell 0 (by decide)
 have e1:((w.setCell ⟨gg,pl,none⟩ (.bool true)).alloc (.cells #[.int .i64 (5),.int .i64 va,.int .i64 vx,.slice ra rng.length rc,.slice sa vsubs.length sc,.bool lz,.int .i64 vup,.int .i64 vnth] 87)).cell? ⟨G.wb,1,none⟩=some (.slice G.At G.nt G.ct):=hs2.wcell 1 (by decide)
 obtain ⟨x0,x1,x2,x3,x4,x5,x6,x7⟩:=bc8 (hbx)
 have HVS:=zzA hvs
 have HVL:=zzA (show vsubs.length=n.subs.length from by rw [hvs,zzP])
 have hvl2:vsubs.length≤9223372036854775807:=zzU (hc.lists _ (zzL hv)).2.1 (hc.lists _ (zzL hv)).2.2.1
 have HKD:=zzA (show ∀ i,kidAt n i K=K from fun i=>by rw [kidAt,if_neg (by omega),Mean.kidK,if_neg (by omega),if_neg (by omega)])
 have HN:=zzA hn
 have HWF:=zzA hwf
 have HC:=zzA hc
 have HS:=zzA hs
 have HPL:=zzA hpl
 have HLEN:=zzA hlen
 have HR:=zzA hr
 have HF2:=zzA (hf1.trans (hc1.below hb2))
 have HC2:=zzA hc2
 have HS2:=zzA hs2
 have HR2:=zzA hr2
 have HST:=zzA hst
 have HBX:=zzA hbx
 have HV:=zzA (zzL hv)
 have HH:=zzA h
 clear h hmd hm hc hs hr hn hwf hlen hv hvk hva hvx hvr hvs hvl hla hgg hba hrc hbk hf1 hs1 hc1 hb2 hbx hst hc2 hs2 hr2
 go_enter Try.func27,Try.ntmps27
 go_wp2_with fail
 clear x0 x1 x2 x3 x4 x5 x6 x7
 have HW:=zzA (show w.heap.size < (((w.setCell ⟨gg,pl,none⟩ (.bool true)).alloc (.cells #[.int .i64 (5),.int .i64 va,.int .i64 vx,.slice ra rng.length rc,.slice sa vsubs.length sc,.bool lz,.int .i64 vup,.int .i64 vnth] 87))).heap.size from HBX.out.lt)
 generalize ((w.setCell ⟨gg,pl,none⟩ (.bool true)).alloc (.cells #[.int .i64 (5),.int .i64 va,.int .i64 vx,.slice ra rng.length rc,.slice sa vsubs.length sc,.bool lz,.int .i64 vup,.int .i64 vnth] 87))=w2 at *
 go_loopw [12] (fun iv wr=>∃ (i:Nat) (s1:Mean.St),i≤vsubs.length∧iv=.int .i64 (i:Int)∧G.fr w2 wr∧G.st wr s1∧G.chain s1 ((n.subs.drop i).map fun x=>Mean.Task.beg x pl nt K) s') (fun iv _=>vsubs.length - (intOf iv).toNat)
 case atStart=>exact ⟨0,_,zzZ _,rfl,HC2.out.below (zzb _ _),HS2.out,HH.out⟩
 case round =>
  obtain ⟨i,s1,hi,rfl,hf,hs1,hch⟩:=hrel
  have y4:=(HST.out.cell hf 4).trans (HBX.out.cell 4)
  simp only [zzX,zzR] at y4
  have hc3:=HC2.out.fr hf
  have HF3:=zzA hf
  have HS3:=zzA hs1
  have HC3:=zzA hc3
  have HCH:=zzA hch
  obtain ⟨wl,hwl⟩:∃ wl,wl=wr:=⟨_,rfl⟩
  subst hwl
  by_cases hlt:i < vsubs.length
  ·have hlt2:(i:Int) < (vsubs.length:Int):=by omega
   have hin:i < n.subs.length:=by have:=HVL.out;omega
   obtain ⟨sn,hsn⟩:∃ sn,n.subs[i]?=some sn:=⟨_,zzJ hin⟩
   have hsv:vsubs[i]?=some sn.ad:=by rw [HVS.out,zza,hsn];rfl
   obtain ⟨sb,so,hsa,hsc⟩:=hc3.sub HV.out hsv
   simp only [] at hsa
   subst hsa
   have hIN:=inT_at HN.out hsn
   rw [HKD.out] at hIN
   have HIN:=zzA hIN
   rw [List.drop_eq_getElem_cons hin,show n.subs[i]'hin=sn from by have:=zzJ hin;rw [hsn] at this;exact (Option.some.inj this).symm,zzS] at hch
   obtain ⟨s2,h2,hch2⟩:=hch
   have HH2:=zzA h2
   have HCH2:=zzA hch2
   clear hf hs1 hc3 hsn hsv h2 hch2 hIN HCH
   go_wp2_with fail
   refine (HH2.out HIN.out HPL.out HLEN.out _ _ _ HC3.out HS3.out (HR2.out.fr6 HF3.out)).mono ?_
   rintro e w9 ⟨rfl,hf9,hs9⟩
   simp only []
   go_wp2_with fail
   exact ⟨⟨i+1,s2,by omega,by go_num,HF3.out.trans hf9,hs9,HCH2.out⟩,by simp [intOf];omega⟩
  ·obtain rfl:i=vsubs.length:=by omega
   have hlt2:¬((vsubs.length:Int) < (vsubs.length:Int)):=by omega
   rw [List.drop_eq_nil_of_le (by have:=HVL.out;omega)] at hch
   have HE:=zzA (show s'=s1 from hch)
   clear hf hs1 hc3 hch HCH
   go_wp2_with fail
   go_end0
   exact ⟨rfl,HF2.out.trans HF3.out,by rw [HE.out];exact HS3.out⟩
end Go.Proofs.Ytkhkllpdhnmhkaa
namespace Go.Proofs.Ytkhkllpdhnmhkaa
open Go.RowKit
theorem sub_at {G:Wr} {w:World} (hc:G.cst w) {k a x:Int} {ra:Option Addr} {rc:Nat} {rng:List (Int × Int)} {sb so sc:Nat} {subs:List Nat} {lz:Bool} {up nth:Int} (hv:(⟨k,a,x,ra,rc,rng,some ⟨sb,so,none⟩,sc,subs,lz,up,nth⟩:NdV)∈G.L) {q:Nat} (hx:subs[0]?=some q):w.cell? ⟨sb,so,none⟩=some (.int .i64 (q:Int)):=by
 obtain ⟨b,o,e,h⟩:=hc.sub hv (i:=0) (x:=q) hx
 simp only [zzd,Addr.mk.injEq,and_true] at e
 obtain ⟨rfl,rfl⟩:=e
 exact h
set_option maxRecDepth 100000 in
set_option maxHeartbeats 4000000 in
theorem begin_7 (G:Wr) (hwf:G.wf) (s s':Mean.St) (n:Mean.Un) (pl:Nat) (nt:List Int) (K:Mean.Kt) (hn:Mean.InT G.root n K) (hm:s.met (n.ad,pl,false)=0) (hkind:n.kind=7) (sn:Mean.Un) (hsn:n.subs[0]?=some sn) (h:G.does (s.mark (n.ad,pl,false)) (.beg sn pl (nt.set (2*n.ix).toNat pl) (kidAt n 0 K)) s') (hpl:pl≤G.nt) (hlen:nt.length=G.NL) (w:World) (N:Option Addr) (c:Nat) (hc:G.cst w) (hs:G.st w s) (hr:RdA w (G.still w) 1 N G.NL c (nt.map (Value.int .i64))) :
  Calls Try.prog 27 #[.pointer (some ⟨G.wb,0,none⟩),.int .i64 (n.ad:Int),.int .i64 (pl:Int),.slice N G.NL c] w fun e w'=>e=.returned (.tuple #[])∧G.fr w w'∧G.st w' s':=by
 obtain ⟨⟨v,hv,hvk,hva,hvx,hvr,hvs,hvl⟩,-⟩:=hwf.rep n (Mean.inT_all hn)
 obtain ⟨kk,va,vx,ra,rc,rng,sa,sc,vsubs,lz,vup,vnth⟩:=v
 simp only [] at hvk hva hvx hvr hvs hvl
 obtain rfl:kk=7:=by rw [hvk,hkind];rfl
 have hnl2:=(zzK.1 hv).1
 obtain ⟨lb,lo,hla⟩:=hc.la (by omega)
 have HLA:=zzA hla
 have hfew:=hwf.few
 have hni:(n.ad:Int) < (G.L.length:Int):=by omega
 obtain ⟨gg,hgg⟩:∃ gg,G.gb[n.ad]?=some gg:=⟨_,zzJ (by rw [hwf.gbl];exact hnl2)⟩
 obtain ⟨rb,ro,hba,hrc⟩:=hc.row hgg
 have hbk:=hs.beg n.ad gg hgg
 have r0:w.cell? ⟨rb,ro+n.ad,none⟩=some (.slice (some ⟨gg,0,none⟩) (G.nt+1) (G.nt+1)):=hrc
 have r1:w.cell? ⟨gg,pl,none⟩=some (.bool (decide (s.met (n.ad,pl,false)≠0))):=(hbk.cell pl).trans (rowM_get hpl)
 have r2:=hbk.frozen pl
 have r3:=hbk.lt
 have hgl:(n.ad:Int) < (G.gb.length:Int):=by rw [hwf.gbl];omega
 have hpi:(pl:Int) < (G.nt:Int)+1:=by omega
 have hsh:=hwf.short
 have hgl2:G.gb.length≤1000000000:=by rw [hwf.gbl];exact hwf.few
 have cb:w.cell? ⟨G.wb,3,none⟩=some (.slice (some ⟨rb,ro,none⟩) G.gb.length G.bc):=by rw [←hba];exact (hs).wcell 3 (by decide)
 have hmd:decide (s.met (n.ad,pl,false)≠0)=false:=by simp [hm]
 rw [hmd] at r1
 obtain ⟨hf1,hs1⟩:=Wr.marked hwf hc hs (b:=false) (pl:=pl) (show (if false=true then G.gd else G.gb)[n.ad]?=some gg from hgg)
 have hc1:=hc.fr hf1
 have c1b:(w.setCell ⟨gg,pl,none⟩ (.bool true)).cell? ⟨G.wb,3,none⟩=some (.slice (some ⟨rb,ro,none⟩) G.gb.length G.bc):=by rw [←hba];exact hs1.wcell 3 (by decide)
 have d0:(w.setCell ⟨gg,pl,none⟩ (.bool true)).cell? ⟨G.wb,0,none⟩=some (.pointer (some ⟨G.tb,0,none⟩)):=hs1.wcell 0 (by decide)
 have d1:(w.setCell ⟨gg,pl,none⟩ (.bool true)).cell? ⟨G.wb,1,none⟩=some (.slice G.At G.nt G.ct):=hs1.wcell 1 (by decide)
 have dt:(w.setCell ⟨gg,pl,none⟩ (.bool true)).cell? ⟨G.tb,0,none⟩=some (.slice (some ⟨lb,lo,none⟩) G.L.length G.lc):=by rw [←HLA.out];exact hc1.tree.2.cell 0
 obtain ⟨p0,p1,p2,p3,p4,p5,p6,p7⟩:=hc1.cells8 hla hv
 have hb2:Below (w.setCell ⟨gg,pl,none⟩ (.bool true)).heap.size (w.setCell ⟨gg,pl,none⟩ (.bool true)) ((w.setCell ⟨gg,pl,none⟩ (.bool true)).alloc (.cells #[.int .i64 (7),.int .i64 va,.int .i64 vx,.slice ra rng.length rc,.slice sa vsubs.length sc,.bool lz,.int .i64 vup,.int .i64 vnth] 87)):=(zzb _ _).alloc (zzF _) _
 have hbx:=Blk.new (w.setCell ⟨gg,pl,none⟩ (.bool true)) 87 [.int .i64 (7),.int .i64 va,.int .i64 vx,.slice ra rng.length rc,.slice sa vsubs.length sc,.bool lz,.int .i64 vup,.int .i64 vnth]
 rw [show (w.setCell ⟨gg,pl,none⟩ (.bool true)).heap.size=w.heap.size from by simp [World.setCell]] at hbx
 have hst:=still_new hc1 hs1 hb2 (by simp)
 rw [show (w.setCell ⟨gg,pl,none⟩ (.bool true)).heap.size=w.heap.size from by simp [World.setCell]] at hst
 have hc2:=hc1.fr (hc1.below hb2)
 have hs2:=hs1.below hc1 hb2
 have hr2:=(hr.fr6 hf1).fr6 (hc1.below hb2)
 have e0:((w.setCell ⟨gg,pl,none⟩ (.bool true)).alloc (.cells #[.int .i64 (7),.int .i64 va,.int .i64 vx,.slice ra rng.length rc,.slice sa vsubs.length sc,.bool lz,.int .i64 vup,.int .i64 vnth] 87)).cell? ⟨G.wb,0,none⟩=some (.pointer (some ⟨G.tb,0,none⟩)):=hs2.wcell 0 (by decide)
 have e1:((w.setCell ⟨gg,pl,none⟩ (.bool true)).alloc (.cells #[.int .i64 (7),.int .i64 va,.int .i64 vx,.slice ra rng.length rc,.slice sa vsubs.length sc,.bool lz,.int .i64 vup,.int .i64 vnth] 87)).cell? ⟨G.wb,1,none⟩=some (.slice G.At G.nt G.ct):=hs2.wcell 1 (by decide)
 obtain ⟨x0,x1,x2,x3,x4,x5,x6,x7⟩:=bc8 (hbx)
 have hsv:vsubs[0]?=some sn.ad:=by rw [hvs,zza,hsn];rfl
 have HSV:=zzA hsv
 have HIN:=zzA (inT_at hn hsn)
 have hvl0:=(zzK.1 hsv).1
 have hvl1:(0:Int) < (vsubs.length:Int):=by omega
 obtain ⟨g,hg1,hg2⟩:=hwf.ok
 have hpix:=(hg2 n (Mean.inT_all hn)).2.2.2.1 hkind
 rw [←hvx] at hpix h
 obtain ⟨j,hj⟩:∃ j:Nat,(j:Int)=2*vx:=⟨(2*vx).toNat,by omega⟩
 have hjn:(2*vx).toNat=j:=by omega
 rw [hjn] at h
 have hNL:=hwf.nl2
 have hnt:=noted6_any N G.NL c j nt (pl:Int) (((w.setCell ⟨gg,pl,none⟩ (.bool true)).alloc (.cells #[.int .i64 (7),.int .i64 va,.int .i64 vx,.slice ra rng.length rc,.slice sa vsubs.length sc,.bool lz,.int .i64 vup,.int .i64 vnth] 87))).drew ((hr2.reads fun b hb=>hb.1).below (zzb _ _).drew) hNL (by omega)
 rw [hj] at hnt
 have HNT:=zzA hnt
 have hvb:0≤vx∧vx≤1099511627:=by omega
 have hwr:IntKind.i64.wrap (2*vx)=2*vx:=by rw [IntKind.wrap_i64];omega
 clear hnt hj hjn hpix hg1 hg2 hsv hsn
 have HN:=zzA hn
 have HWF:=zzA hwf
 have HC:=zzA hc
 have HS:=zzA hs
 have HPL:=zzA hpl
 have HLEN:=zzA hlen
 have HR:=zzA hr
 have HF2:=zzA (hf1.trans (hc1.below hb2))
 have HC2:=zzA hc2
 have HS2:=zzA hs2
 have HR2:=zzA hr2
 have HST:=zzA hst
 have HBX:=zzA hbx
 have HV:=zzA (zzL hv)
 have HH:=zzA h
 clear h hmd hm hc hs hr hn hwf hlen hv hvk hva hvx hvr hvs hvl hla hgg hba hrc hbk hf1 hs1 hc1 hb2 hbx hst hc2 hs2 hr2
 go_enter Try.func27,Try.ntmps27
 obtain ⟨sb,so,hsa,hsc⟩:=HC2.out.sub HV.out HSV.out
 simp only [] at hsa
 subst hsa
 rw [Nat.add_zero] at hsc
 go_wp2_with fail
 have kA:((w.setCell ⟨gg,pl,none⟩ (.bool true)).alloc (.cells #[.int .i64 (7),.int .i64 va,.int .i64 vx,.slice ra rng.length rc,.slice (some ⟨sb,so,none⟩) vsubs.length sc,.bool lz,.int .i64 vup,.int .i64 vnth] 87)).cell? ⟨w.heap.size,2,none⟩=some (.int .i64 vx)∧((w.setCell ⟨gg,pl,none⟩ (.bool true)).alloc (.cells #[.int .i64 (7),.int .i64 va,.int .i64 vx,.slice ra rng.length rc,.slice (some ⟨sb,so,none⟩) vsubs.length sc,.bool lz,.int .i64 vup,.int .i64 vnth] 87)).cell? ⟨w.heap.size,4,none⟩=some (.slice (some ⟨sb,so,none⟩) vsubs.length sc)∧((w.setCell ⟨gg,pl,none⟩ (.bool true)).alloc (.cells #[.int .i64 (7),.int .i64 va,.int .i64 vx,.slice ra rng.length rc,.slice (some ⟨sb,so,none⟩) vsubs.length sc,.bool lz,.int .i64 vup,.int .i64 vnth] 87)).cell? ⟨sb,so,none⟩=some (.int .i64 (sn.ad:Int)):=⟨x2,x4,hsc⟩
 clear x0 x1 x2 x3 x4 x5 x6 x7 hsc
 generalize ((w.setCell ⟨gg,pl,none⟩ (.bool true)).alloc (.cells #[.int .i64 (7),.int .i64 va,.int .i64 vx,.slice ra rng.length rc,.slice (some ⟨sb,so,none⟩) vsubs.length sc,.bool lz,.int .i64 vup,.int .i64 vnth] 87))=w2 at *
 refine wp_region_held_drew (S:=(fun u=>u.cell? ⟨w.heap.size,2,none⟩=some (.int .i64 vx)∧u.cell? ⟨w.heap.size,4,none⟩=some (.slice (some ⟨sb,so,none⟩) vsubs.length sc)∧u.cell? ⟨sb,so,none⟩=some (.int .i64 (sn.ad:Int)))) (by kernel_rfl) kA (fun hS0=>?_)
 refine wpAnyH_take (i:=0) (oi:={ dst:=some 128,op:=Op.move (Operand.tmp 0),type:=69,pos:= "ref.go:186",after:=#[],guard:=none }) (v:=?_) rfl (by kernel_rfl) (by kernel_rfl) (by kernel_rfl) (fun _ _ _ h=>h) (Or.inl ⟨by rfl,?_⟩) (by assumption) ?_
 rotate_left
 ·intro w hSw;(try dsimp only at hSw);go_simp;(try with_reducible rfl)
 (try simp only [Act.put,zzB,zzD,zzC])
 refine wpAnyH_take (i:=1) (oi:={ dst:=some 129,op:=Op.fieldAddr 87 (Operand.tmp 8) 4,type:=0,pos:= "ref.go:186",after:=#[],guard:=none }) (v:=?_) rfl (by kernel_rfl) (by kernel_rfl) (by kernel_rfl) (fun _ _ _ h=>h) (Or.inl ⟨by rfl,?_⟩) (by assumption) ?_
 rotate_left
 ·intro w hSw;(try dsimp only at hSw);go_simp;(try with_reducible rfl)
 (try simp only [Act.put,zzB,zzD,zzC])
 refine wpAnyH_take (i:=2) (oi:={ dst:=some 130,op:=Op.load 26 (Operand.tmp 129),type:=26,pos:= "ref.go:186",after:=#[{ on:=1,ground:=Ground.data }],guard:=none }) (v:=?_) rfl (by kernel_rfl) (by kernel_rfl) (by kernel_rfl) (fun _ _ _ h=>h) (Or.inl ⟨by rfl,?_⟩) (by assumption) ?_
 rotate_left
 ·intro w hSw;(try dsimp only at hSw);go_simp;(try with_reducible rfl)
 (try simp only [Act.put,zzB,zzD,zzC])
 refine wpAnyH_take (i:=3) (oi:={ dst:=some 131,op:=Op.indexAddr 26 (Operand.tmp 130) (Operand.const (Value.int IntKind.i64 0)),type:=0,pos:= "ref.go:186",after:=#[{ on:=2,ground:=Ground.data }],guard:=none }) (v:=?_) rfl (by kernel_rfl) (by kernel_rfl) (by kernel_rfl) (fun _ _ _ h=>h) (Or.inl ⟨by rfl,?_⟩) (by assumption) ?_
 rotate_left
 ·intro w hSw;(try dsimp only at hSw);go_simp;(try with_reducible rfl)
 (try simp only [Act.put,zzB,zzD,zzC])
 refine wpAnyH_take (i:=4) (oi:={ dst:=some 132,op:=Op.load 3 (Operand.tmp 131),type:=3,pos:= "ref.go:186",after:=#[{ on:=3,ground:=Ground.data }],guard:=none }) (v:=?_) rfl (by kernel_rfl) (by kernel_rfl) (by kernel_rfl) (fun _ _ _ h=>h) (Or.inl ⟨by rfl,?_⟩) (by assumption) ?_
 rotate_left
 ·intro w hSw;(try dsimp only at hSw);go_simp;(try with_reducible rfl)
 (try simp only [Act.put,zzB,zzD,zzC])
 refine wpAnyH_take (i:=5) (oi:={ dst:=some 133,op:=Op.move (Operand.tmp 2),type:=3,pos:= "ref.go:186",after:=#[],guard:=none }) (v:=?_) rfl (by kernel_rfl) (by kernel_rfl) (by kernel_rfl) (fun _ _ _ h=>h) (Or.inl ⟨by rfl,?_⟩) (by assumption) ?_
 rotate_left
 ·intro w hSw;(try dsimp only at hSw);go_simp;(try with_reducible rfl)
 (try simp only [Act.put,zzB,zzD,zzC])
 refine wpAnyH_take (i:=6) (oi:={ dst:=some 134,op:=Op.move (Operand.tmp 3),type:=26,pos:= "ref.go:186",after:=#[],guard:=none }) (v:=?_) rfl (by kernel_rfl) (by kernel_rfl) (by kernel_rfl) (fun _ _ _ h=>h) (Or.inl ⟨by rfl,?_⟩) (by assumption) ?_
 rotate_left
 ·intro w hSw;(try dsimp only at hSw);go_simp;(try with_reducible rfl)
 (try simp only [Act.put,zzB,zzD,zzC])
 refine wpAnyH_take (i:=7) (oi:={ dst:=some 135,op:=Op.fieldAddr 87 (Operand.tmp 8) 2,type:=0,pos:= "ref.go:186",after:=#[],guard:=none }) (v:=?_) rfl (by kernel_rfl) (by kernel_rfl) (by kernel_rfl) (fun _ _ _ h=>h) (Or.inl ⟨by rfl,?_⟩) (by assumption) ?_
 rotate_left
 ·intro w hSw;(try dsimp only at hSw);go_simp;(try with_reducible rfl)
 (try simp only [Act.put,zzB,zzD,zzC])
 refine wpAnyH_take (i:=8) (oi:={ dst:=some 136,op:=Op.load 3 (Operand.tmp 135),type:=3,pos:= "ref.go:186",after:=#[{ on:=7,ground:=Ground.data }],guard:=none }) (v:=?_) rfl (by kernel_rfl) (by kernel_rfl) (by kernel_rfl) (fun _ _ _ h=>h) (Or.inl ⟨by rfl,?_⟩) (by assumption) ?_
 rotate_left
 ·intro w hSw;(try dsimp only at hSw);go_simp;(try with_reducible rfl)
 (try simp only [Act.put,zzB,zzD,zzC])
 refine wpAnyH_take (i:=9) (oi:={ dst:=some 137,op:=Op.binOp BinOp.mul 3 (Operand.const (Value.int IntKind.i64 2)) (Operand.tmp 136) 3,type:=3,pos:= "ref.go:186",after:=#[{ on:=8,ground:=Ground.data }],guard:=none }) (v:=?_) rfl (by kernel_rfl) (by kernel_rfl) (by kernel_rfl) (fun _ _ _ h=>h) (Or.inl ⟨by rfl,?_⟩) (by assumption) ?_
 rotate_left
 ·intro w hSw;(try dsimp only at hSw);go_simp;(try with_reducible rfl)
 (try simp only [Act.put,zzB,zzD,zzC])
 refine wpAnyH_take (i:=10) (oi:={ dst:=some 138,op:=Op.move (Operand.tmp 2),type:=3,pos:= "ref.go:186",after:=#[],guard:=none }) (v:=?_) rfl (by kernel_rfl) (by kernel_rfl) (by kernel_rfl) (fun _ _ _ h=>h) (Or.inl ⟨by rfl,?_⟩) (by assumption) ?_
 rotate_left
 ·intro w hSw;(try dsimp only at hSw);go_simp;(try with_reducible rfl)
 (try simp only [Act.put,zzB,zzD,zzC])
 refine wpAnyH_ready (rs:=[11]) (by kernel_rfl) (by simp) ?_
 refine AllReadyH.cons (o:={ dst:=some 139,op:=Op.call { callee:=Callee.value (Operand.func 43),args:=#[Operand.tmp 134,Operand.tmp 137,Operand.tmp 138],argTypes:=#[26,3,3] },type:=26,pos:= "ref.go:186",after:=#[{ on:=6,ground:=Ground.data },{ on:=9,ground:=Ground.data },{ on:=10,ground:=Ground.data }],guard:=none }) rfl (fun K hK=>?_) ?_
 ·skip
  refine step_callv6 rfl 43 (.func 43) #[.tmp 134,.tmp 137,.tmp 138] _ #[] rfl rfl #[.slice N G.NL c,.int .i64 (2*vx),.int .i64 (pl:Int)] (by simp only [List.map_toArray,zzS,List.map_nil];rfl) (enters6 Try.func43 (by kernel_rfl) (by kernel_rfl)) ?_
  refine HNT.out.mono ?_
  rintro e w3 ⟨N3,c3,rfl,hb3,hn3⟩
  have hb23:=((zzb _ _).drew).trans hb3
  have HF3:=zzA (HC2.out.below hb23)
  have HC3:=zzA (HC2.out.fr HF3.out)
  have HS3:=zzA (HS2.out.below HC2.out hb23)
  have HR3:=zzA (HC2.out.fresh HS2.out hb23 (hn3.mono fun b hb=>hb))
  have kB:w3.cell? ⟨w.heap.size,2,none⟩=some (.int .i64 vx)∧w3.cell? ⟨w.heap.size,4,none⟩=some (.slice (some ⟨sb,so,none⟩) vsubs.length sc)∧w3.cell? ⟨sb,so,none⟩=some (.int .i64 (sn.ad:Int)):=⟨(HST.out.cell HF3.out 2).trans (HBX.out.cell 2),(HST.out.cell HF3.out 4).trans (HBX.out.cell 4),sub_at HC3.out HV.out HSV.out⟩
  clear hb3 hn3 hb23
  refine ⟨_,rfl,?_⟩
  refine hK.out _ _ ?_ (fun hHeld=>?_)
  ·exact kB
  clear hK K hHeld
  (try simp only [Act.put,zzB,zzD,zzC])
  refine wpAnyH_ready (rs:=[12]) (by kernel_rfl) (by simp) ?_
  refine AllReadyH.cons (o:={ dst:=some 140,op:=Op.call { callee:=Callee.value (Operand.func 27),args:=#[Operand.tmp 128,Operand.tmp 132,Operand.tmp 133,Operand.tmp 139],argTypes:=#[69,3,3,26] },type:=0,pos:= "ref.go:186",after:=#[{ on:=0,ground:=Ground.data },{ on:=4,ground:=Ground.data },{ on:=5,ground:=Ground.data },{ on:=11,ground:=Ground.data },{ on:=11,ground:=Ground.chain }],guard:=none }) rfl (fun K hK=>?_) ?_
  ·skip
   refine step_callv6 rfl 27 (.func 27) #[.tmp 128,.tmp 132,.tmp 133,.tmp 139] _ #[] rfl rfl #[.pointer (some ⟨G.wb,0,none⟩),.int .i64 (sn.ad:Int),.int .i64 (pl:Int),.slice N3 G.NL c3] (by simp only [List.map_toArray,zzS,List.map_nil];rfl) (enters6 Try.func27 (by kernel_rfl) (by kernel_rfl)) ?_
   refine (HH.out HIN.out HPL.out (by rw [List.length_set];exact HLEN.out) _ _ _ HC3.out HS3.out HR3.out).mono ?_
   rintro e w9 ⟨rfl,hf9,hs9⟩
   have HF9:=zzA hf9
   have HS9:=zzA hs9
   have kC:w9.cell? ⟨w.heap.size,2,none⟩=some (.int .i64 vx)∧w9.cell? ⟨w.heap.size,4,none⟩=some (.slice (some ⟨sb,so,none⟩) vsubs.length sc)∧w9.cell? ⟨sb,so,none⟩=some (.int .i64 (sn.ad:Int)):=⟨((HST.out.fr HF3.out).cell hf9 2).trans kB.1,((HST.out.fr HF3.out).cell hf9 4).trans kB.2.1,sub_at (HC3.out.fr hf9) HV.out HSV.out⟩
   clear hf9 hs9
   refine ⟨_,rfl,?_⟩
   refine hK.out _ _ ?_ (fun hHeld=>?_)
   ·exact kC
   clear hK K hHeld
   (try simp only [Act.put,zzB,zzD,zzC])
   refine wpAnyH_done (by kernel_rfl) ?_ _
   go_wp2_with fail
   go_end0
   exact ⟨rfl,HF2.out.trans (HF3.out.trans HF9.out),HS9.out⟩
  exact AllReadyH.nil
 exact AllReadyH.nil
end Go.Proofs.Ytkhkllpdhnmhkaa
