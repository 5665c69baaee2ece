/- heronref06's walker.begin: a class. -/
import Derived.Test.YtkhkllpdhnmhkaaP07
import Derived.Test.YtkhkllpdhnmhkaaP10
import Derived.Test.YtkhkllpdhnmhkaaP19
import Derived.Test.YtkhkllpdhnmhkaaP24
namespace Go.Proofs.Ytkhkllpdhnmhkaa
open Go.RowKit
set_option maxRecDepth 100000 in
set_option maxHeartbeats 4000000 in
theorem begin_2 (G:Wr) (hwf:G.wf) (s s':Mean.St) (n:Mean.Un) (pl:Nat) (nt:List Int) (K:Mean.Kt) (hn:Mean.InT G.root n K) (hm:s.met (n.ad,pl,false)=0) (hkind:n.kind=2) (h:G.chain (s.mark (n.ad,pl,false)) (if pl < G.t.length∧memB n.rng (G.t.getD pl 0)=true then [.go K (pl+1) nt] else []) s') (hpl:pl≤G.nt) (hlen:nt.length=G.NL) (w:World) (N:Option Addr) (c:Nat) (hc:G.cst w) (hs:G.st w s) (hr:RdA w (G.still w) 1 N G.NL c (nt.map (Value.int .i64))) :
  Calls Try.prog 27 #[.pointer (some ⟨G.wb,0,none⟩),.int .i64 (n.ad:Int),.int .i64 (pl:Int),.slice N G.NL c] w fun e w'=>e=.returned (.tuple #[])∧G.fr w w'∧G.st w' s':=by
 obtain ⟨⟨v,hv,hvk,hva,hvx,hvr,hvs,hvl⟩,-⟩:=hwf.rep n (Mean.inT_all hn)
 obtain ⟨kk,va,vx,ra,rc,rng,sa,sc,vsubs,lz,vup,vnth⟩:=v
 simp only [] at hvk hva hvx hvr hvs hvl
 obtain rfl:kk=2:=by rw [hvk,hkind];rfl
 have hnl2:=(zzK.1 hv).1
 obtain ⟨lb,lo,hla⟩:=hc.la (by omega)
 have HLA:=zzA hla
 have hfew:=hwf.few
 have hni:(n.ad:Int) < (G.L.length:Int):=by omega
 obtain ⟨gg,hgg⟩:∃ gg,G.gb[n.ad]?=some gg:=⟨_,zzJ (by rw [hwf.gbl];exact hnl2)⟩
 obtain ⟨rb,ro,hba,hrc⟩:=hc.row hgg
 have hbk:=hs.beg n.ad gg hgg
 have r0:w.cell? ⟨rb,ro+n.ad,none⟩=some (.slice (some ⟨gg,0,none⟩) (G.nt+1) (G.nt+1)):=hrc
 have r1:w.cell? ⟨gg,pl,none⟩=some (.bool (decide (s.met (n.ad,pl,false)≠0))):=(hbk.cell pl).trans (rowM_get hpl)
 have r2:=hbk.frozen pl
 have r3:=hbk.lt
 have hgl:(n.ad:Int) < (G.gb.length:Int):=by rw [hwf.gbl];omega
 have hpi:(pl:Int) < (G.nt:Int)+1:=by omega
 have hsh:=hwf.short
 have hgl2:G.gb.length≤1000000000:=by rw [hwf.gbl];exact hwf.few
 have cb:w.cell? ⟨G.wb,3,none⟩=some (.slice (some ⟨rb,ro,none⟩) G.gb.length G.bc):=by rw [←hba];exact (hs).wcell 3 (by decide)
 have hmd:decide (s.met (n.ad,pl,false)≠0)=false:=by simp [hm]
 rw [hmd] at r1
 obtain ⟨hf1,hs1⟩:=Wr.marked hwf hc hs (b:=false) (pl:=pl) (show (if false=true then G.gd else G.gb)[n.ad]?=some gg from hgg)
 have hc1:=hc.fr hf1
 have c1b:(w.setCell ⟨gg,pl,none⟩ (.bool true)).cell? ⟨G.wb,3,none⟩=some (.slice (some ⟨rb,ro,none⟩) G.gb.length G.bc):=by rw [←hba];exact hs1.wcell 3 (by decide)
 have d0:(w.setCell ⟨gg,pl,none⟩ (.bool true)).cell? ⟨G.wb,0,none⟩=some (.pointer (some ⟨G.tb,0,none⟩)):=hs1.wcell 0 (by decide)
 have d1:(w.setCell ⟨gg,pl,none⟩ (.bool true)).cell? ⟨G.wb,1,none⟩=some (.slice G.At G.nt G.ct):=hs1.wcell 1 (by decide)
 have dt:(w.setCell ⟨gg,pl,none⟩ (.bool true)).cell? ⟨G.tb,0,none⟩=some (.slice (some ⟨lb,lo,none⟩) G.L.length G.lc):=by rw [←HLA.out];exact hc1.tree.2.cell 0
 obtain ⟨p0,p1,p2,p3,p4,p5,p6,p7⟩:=hc1.cells8 hla hv
 have hb2:Below (w.setCell ⟨gg,pl,none⟩ (.bool true)).heap.size (w.setCell ⟨gg,pl,none⟩ (.bool true)) ((w.setCell ⟨gg,pl,none⟩ (.bool true)).alloc (.cells #[.int .i64 (2),.int .i64 va,.int .i64 vx,.slice ra rng.length rc,.slice sa vsubs.length sc,.bool lz,.int .i64 vup,.int .i64 vnth] 87)):=(zzb _ _).alloc (zzF _) _
 have hbx:=Blk.new (w.setCell ⟨gg,pl,none⟩ (.bool true)) 87 [.int .i64 (2),.int .i64 va,.int .i64 vx,.slice ra rng.length rc,.slice sa vsubs.length sc,.bool lz,.int .i64 vup,.int .i64 vnth]
 rw [show (w.setCell ⟨gg,pl,none⟩ (.bool true)).heap.size=w.heap.size from by simp [World.setCell]] at hbx
 have hst:=still_new hc1 hs1 hb2 (by simp)
 rw [show (w.setCell ⟨gg,pl,none⟩ (.bool true)).heap.size=w.heap.size from by simp [World.setCell]] at hst
 have hc2:=hc1.fr (hc1.below hb2)
 have hs2:=hs1.below hc1 hb2
 have hr2:=(hr.fr6 hf1).fr6 (hc1.below hb2)
 have e0:((w.setCell ⟨gg,pl,none⟩ (.bool true)).alloc (.cells #[.int .i64 (2),.int .i64 va,.int .i64 vx,.slice ra rng.length rc,.slice sa vsubs.length sc,.bool lz,.int .i64 vup,.int .i64 vnth] 87)).cell? ⟨G.wb,0,none⟩=some (.pointer (some ⟨G.tb,0,none⟩)):=hs2.wcell 0 (by decide)
 have e1:((w.setCell ⟨gg,pl,none⟩ (.bool true)).alloc (.cells #[.int .i64 (2),.int .i64 va,.int .i64 vx,.slice ra rng.length rc,.slice sa vsubs.length sc,.bool lz,.int .i64 vup,.int .i64 vnth] 87)).cell? ⟨G.wb,1,none⟩=some (.slice G.At G.nt G.ct):=hs2.wcell 1 (by decide)
 obtain ⟨x0,x1,x2,x3,x4,x5,x6,x7⟩:=bc8 (hbx)
 have HRG:=zzA ((hc2.lists _ (zzL hv)).1.reads fun b hb=>hb.1)
 have HRN:=zzA (show n.rng=rng from hvr.symm)
 have HRI:=zzA (show rightB rng=true from by
  obtain ⟨g,-,hg⟩:=hwf.ok
  have:=(hg n (Mean.inT_all hn)).2.1 hkind
  rwa [←hvr] at this)
 have HN:=zzA hn
 have HWF:=zzA hwf
 have HC:=zzA hc
 have HS:=zzA hs
 have HPL:=zzA hpl
 have HLEN:=zzA hlen
 have HR:=zzA hr
 have HF2:=zzA (hf1.trans (hc1.below hb2))
 have HC2:=zzA hc2
 have HS2:=zzA hs2
 have HR2:=zzA hr2
 have HST:=zzA hst
 have HBX:=zzA hbx
 have HV:=zzA (zzL hv)
 have HH:=zzA h
 clear h hmd hm hc hs hr hn hwf hlen hv hvk hva hvx hvr hvs hvl hla hgg hba hrc hbk hf1 hs1 hc1 hb2 hbx hst hc2 hs2 hr2
 go_enter Try.func27,Try.ntmps27
 by_cases hlt:pl < G.nt
 ·have hlt2:(pl:Int) < (G.nt:Int):=by omega
  obtain ⟨xb,xo,hA,hxb,hxc⟩:=HC2.out.text.2.2.2.2 (by omega)
  have t0:((w.setCell ⟨gg,pl,none⟩ (.bool true)).alloc (.cells #[.int .i64 (2),.int .i64 va,.int .i64 vx,.slice ra rng.length rc,.slice sa vsubs.length sc,.bool lz,.int .i64 vup,.int .i64 vnth] 87)).cell? ⟨xb,xo+pl,none⟩=some (.int .i64 (G.t.getD pl 0)):=hxc pl _ (by rw [zza,List.getD_eq_getElem?_getD,zzJ (by rw [HWF.out.len];exact hlt)];rfl)
  rw [hA] at e1
  have hctt:=HC2.out.text.1
  have hctc:=HC2.out.text.2.1
  generalize hr0:G.t.getD pl 0=r0 at *
  have HR0:=zzA hr0
  have HHAS:=zzA (fun m=>refHas_any ra rng.length rc _ r0 rng ((((w.setCell ⟨gg,pl,none⟩ (.bool true)).alloc (.cells #[.int .i64 (2),.int .i64 va,.int .i64 vx,.slice ra rng.length rc,.slice sa vsubs.length sc,.bool lz,.int .i64 vup,.int .i64 vnth] 87))).drewN m) (HRG.out.drewN m))
  clear hr0 hxc hxb hA
  go_wp2_with fail
  go_quiet (first | (go_at_call 40;refine (HHAS.out _).mono ?_;rintro e w3 ⟨he,m,hm⟩;exact ⟨he,_,by rw [←hm,World.drewN_drewN]⟩))
  rw [HRI.out,Bool.true_and]
  have hbd:=(zzb (((w.setCell ⟨gg,pl,none⟩ (.bool true)).alloc (.cells #[.int .i64 (2),.int .i64 va,.int .i64 vx,.slice ra rng.length rc,.slice sa vsubs.length sc,.bool lz,.int .i64 vup,.int .i64 vnth] 87))).heap.size ((w.setCell ⟨gg,pl,none⟩ (.bool true)).alloc (.cells #[.int .i64 (2),.int .i64 va,.int .i64 vx,.slice ra rng.length rc,.slice sa vsubs.length sc,.bool lz,.int .i64 vup,.int .i64 vnth] 87)))
  have HB:=zzA (bdrewN hbd nq)
  have HC3:=zzA (HC2.out.fr (HC2.out.below HB.out))
  have HS3:=zzA (HS2.out.below HC2.out HB.out)
  have HR3:=zzA (HR2.out.fr6 (HC2.out.below HB.out))
  have HF3:=zzA (HF2.out.trans (HC2.out.below HB.out))
  clear t0 hbd
  cases hbm:memB rng r0 with
  | false =>
   have HE:=zzA (show s'=s.mark (n.ad,pl,false) from by
    have h:=HH.out
    rw [if_neg (by rintro ⟨-,h1⟩;rw [HRN.out,hbm] at h1;cases h1)] at h
    exact h)
   go_wp2_with fail
   go_end0
   exact ⟨rfl,HF3.out,by rw [HE.out];exact HS3.out⟩
  | true =>
   have hh:=HH.out
   rw [if_pos ⟨by rw [HWF.out.len];exact hlt,by rw [HRN.out,hbm]⟩] at hh
   obtain ⟨s1,h1,e1'⟩:=hh
   have hcall:=h1 n HN.out (by omega) HLEN.out _ N c HC3.out HS3.out HR3.out
   rw [show ((pl+1:Nat):Int)=(pl:Int)+1 from by omega] at hcall
   have HCALL:=zzA hcall
   have HE1:=zzA e1'
   clear h1 hcall e1'
   go_wp2_with fail
   refine HCALL.out.mono ?_
   rintro e w9 ⟨rfl,hf9,hs9⟩
   simp only []
   go_wp2_with fail
   go_end0
   exact ⟨rfl,HF3.out.trans hf9,by rw [HE1.out];exact hs9⟩
 ·have hlt2:¬((pl:Int) < (G.nt:Int)):=by omega
  have hlt3:decide ((pl:Int) < (G.nt:Int))=false:=decide_eq_false hlt2
  have HE:=zzA (show s'=s.mark (n.ad,pl,false) from by
   have h:=HH.out
   rw [if_neg (by rintro ⟨h1,-⟩;rw [HWF.out.len] at h1;exact hlt h1)] at h
   exact h)
  go_wp2_with fail
  go_quiet (fail)
  have hbd:=(zzb (((w.setCell ⟨gg,pl,none⟩ (.bool true)).alloc (.cells #[.int .i64 (2),.int .i64 va,.int .i64 vx,.slice ra rng.length rc,.slice sa vsubs.length sc,.bool lz,.int .i64 vup,.int .i64 vnth] 87))).heap.size ((w.setCell ⟨gg,pl,none⟩ (.bool true)).alloc (.cells #[.int .i64 (2),.int .i64 va,.int .i64 vx,.slice ra rng.length rc,.slice sa vsubs.length sc,.bool lz,.int .i64 vup,.int .i64 vnth] 87)))
  have HB:=zzA (bdrewN hbd nq)
  go_wp2_with fail
  go_end0
  exact ⟨rfl,HF2.out.trans (HC2.out.below HB.out),by rw [HE.out];exact HS2.out.below HC2.out HB.out⟩
end Go.Proofs.Ytkhkllpdhnmhkaa
namespace Go.Proofs.Ytkhkllpdhnmhkaa
open Tr Mach
namespace Mean
mutual
def mkV:Us→Nat→Un
 | .mk k r a i z l,n=>.mk n k r a i z (mkVs l (n+1))
def mkVs:List Us→Nat→List Un
 | [],_=>[]
 | u :: l,n=>mkV u n :: mkVs l (n+szU u)
end
mutual
theorem mkV_sh:∀ (u:Us) (n:Nat),shU (mkV u n)=u
 | .mk k r a i z l,n=>by rw [mkV,shU,mkVs_sh l]
theorem mkVs_sh:∀ (l:List Us) (n:Nat),shUs (mkVs l n)=l
 | [],_=>rfl
 | u :: l,n=>by rw [mkVs,shUs,mkV_sh u,mkVs_sh l]
end
theorem mkV_len (u:Us) (n:Nat):(mkV u n).all.length=szU u:=by rw [all_len,mkV_sh]
theorem mkV_ad (u:Us) (n:Nat):(mkV u n).ad=n:=by cases u;rw [mkV];rfl
mutual
theorem mkV_ads:∀ (u:Us) (n:Nat),(mkV u n).all.map Un.ad=List.range' n (szU u)
 | .mk k r a i z l,n=>by
  rw [mkV,Un.all,zzS,mkVs_ads l,szU,List.range'_succ];rfl
theorem mkVs_ads:∀ (l:List Us) (n:Nat),(allU (mkVs l n)).map Un.ad=List.range' n (szUs l)
 | [],_=>rfl
 | u :: l,n=>by
  rw [mkVs,allU,zzT,mkV_ads u,mkVs_ads l,szUs,←List.range'_append_1]
end
theorem mkVs_nm:∀ (l:List Us) (n:Nat),nmL (mkVs l n) n
 | [],_=>trivial
 | u :: l,n=>by
  rw [mkVs]
  refine ⟨mkV_ad u n,?_⟩
  rw [mkV_len]
  exact mkVs_nm l _
mutual
theorem mkV_nm:∀ (u:Us) (n:Nat),∀ m∈(mkV u n).all,nmL m.subs (m.ad+1)
 | .mk k r a i z l,n,m,hm=>by
  rw [mkV,Un.all] at hm
  rcases zzN.1 hm with rfl | hm
  ·exact mkVs_nm l (n+1)
  ·exact mkVs_nms l (n+1) m hm
theorem mkVs_nms:∀ (l:List Us) (n:Nat),∀ m∈allU (mkVs l n),nmL m.subs (m.ad+1)
 | [],_,m,hm=>by cases hm
 | u :: l,n,m,hm=>by
  rw [mkVs,allU] at hm
  rcases zzM.1 hm with hm | hm
  ·exact mkV_nm u n m hm
  ·exact mkVs_nms l _ m hm
end
def rightU (k i:Int) (n:Nat):Prop :=
 (k=1∨k=2∨k=3∨k=4∨k=5∨k=7∨k=-1∨k=-2∨k=-3)∧(k=1∨k=2∨k=3→n=0)∧(k=5→2≤n)∧(k=7→1≤i)∧(k=7∨k=-1∨k=-2∨k=-3→n=1)
mutual
def allRU:Us→Prop
 | .mk k _ _ i _ l=>rightU k i l.length∧allRUs l
def allRUs:List Us→Prop
 | []=>True
 | u :: l=>allRU u∧allRUs l
end
theorem allRUs_iff:∀ l:List Us,allRUs l ↔ ∀ u∈l,allRU u
 | []=>by simp [allRUs]
 | u :: l=>by rw [allRUs,allRUs_iff l];simp
theorem ru_loop {k:Int} {z:Bool} {x:Us} (hk:k=-1∨k=-2∨k=-3) (h:allRU x):allRU (loopU k z x):=by
 refine ⟨⟨by omega,by omega,by omega,by omega,fun _=>rfl⟩,h,trivial⟩
theorem ru_cat {l:List Us} (h:∀ u∈l,allRU u):allRU (catU l):=⟨⟨by omega,by omega,by omega,by omega,by omega⟩,(allRUs_iff l).2 h⟩
theorem ru_opt {z:Bool} {x:Us} (h:allRU x):∀ n:Nat,allRU (optU z x n)
 | 0=>ru_loop (.inl rfl) h
 | n+1=>ru_loop (.inl rfl) (ru_cat fun u hu=>by
  simp only [zzN,List.not_mem_nil,or_false] at hu
  rcases hu with rfl | rfl
  ·exact h
  ·exact ru_opt h n)
theorem ru_rep {n m:Int} {z:Bool} {x:Us} (h:allRU x):allRU (repU x n m z):=by
 unfold repU
 split
 ·split
  ·exact ru_loop (.inr (.inl rfl)) h
  ·refine ru_cat fun u hu=>?_
   rcases zzM.1 hu with hu | hu
   ·rw [(List.mem_replicate.1 hu).2];exact h
   ·simp only [zzE] at hu
    rw [hu];exact ru_loop (.inr (.inr rfl)) h
 ·split
  ·exact ⟨⟨.inl rfl,fun _=>rfl,by omega,by omega,by omega⟩,trivial⟩
  ·refine ru_cat fun u hu=>?_
   rcases zzM.1 hu with hu | hu
   ·rw [(List.mem_replicate.1 hu).2];exact h
   ·split at hu
    ·simp only [zzE] at hu
     rw [hu];exact ru_opt h _
    ·cases hu
theorem ru_unf:∀ t:Tr.Tr,allB t=true→allRU (unfS t):=by
 intro t
 induction t using Tr.Tr.ind with
 | h t ih =>
  intro h
  cases kinds h with
  | empty=>exact ⟨⟨.inl rfl,fun _=>rfl,by omega,by omega,by omega⟩,trivial⟩
  | cls r hr=>exact ⟨⟨.inr (.inl rfl),fun _=>rfl,by omega,by omega,by omega⟩,trivial⟩
  | ass a ha=>exact ⟨⟨.inr (.inr (.inl rfl)),fun _=>rfl,by omega,by omega,by omega⟩,trivial⟩
  | cat l h2 hs =>
   rw [catT,unfS,if_pos (by decide),unfSs_map]
   refine ⟨⟨by omega,by omega,by omega,by omega,by omega⟩,(allRUs_iff _).2 fun u hu=>?_⟩
   obtain ⟨s,hs',rfl⟩:=List.mem_map.1 hu
   exact ih s hs' (hs s hs')
  | alt l h2 hs =>
   rw [altT,unfS,if_pos (by decide),unfSs_map]
   refine ⟨⟨by omega,by omega,fun _=>by rw [zzP];exact h2,by omega,by omega⟩,(allRUs_iff _).2 fun u hu=>?_⟩
   obtain ⟨s,hs',rfl⟩:=List.mem_map.1 hu
   exact ih s hs' (hs s hs')
  | rep x n m z hx h0 h1 hm =>
   rw [repT,unfS,if_neg (by decide),unfSs_map]
   exact ru_rep (ih x (List.mem_singleton_self _) hx)
  | group x i s hx h0 h1 hm =>
   rw [groupT,unfS,if_pos (by decide),unfSs_map]
   exact ⟨⟨by omega,by omega,by omega,fun _=>h0,fun _=>rfl⟩,ih x (List.mem_singleton_self _) hx,trivial⟩
theorem nodeW_of {n:Un} (h:rightU n.kind n.ix n.subs.length):nodeW n:=by
 obtain ⟨h1,h2,h3,h4,h5⟩:=h
 refine ⟨h1,fun e=>List.eq_nil_of_length_eq_zero (h2 e),h3,h4,fun e=>?_⟩
 have:=h5 e
 match hs:n.subs,this with
 | [s],_=>exact ⟨s,rfl⟩
theorem ru_nodes:∀ u:Un,allRU (shU u)→∀ n∈u.all,nodeW n:=by
 intro u
 induction u using Un.ind with
 | h u ih =>
  intro h n hn
  rw [shU_eq] at h
  obtain ⟨h1,h2⟩:=h
  rw [allRUs_iff] at h2
  rw [all_subs u] at hn
  rcases zzN.1 hn with rfl | hn
  ·exact nodeW_of (by rwa [zzP] at h1)
  ·rw [allU_flat] at hn
   obtain ⟨s,hs,hn⟩:=List.mem_flatMap.1 hn
   exact ih s hs (h2 _ (List.mem_map_of_mem hs)) n hn
def CodeEq (v:Un) (s:Tr.Tr):Prop:=lenN v=lenS s∧∀ b,codeN v b=codeS s b
theorem codes_eq:∀ {us:List Un} {l:List Tr.Tr},shUs us=unfSs l→(∀ s∈l,∀ v,shU v=unfS s→CodeEq v s)→lensN us=lensS l∧us.length=l.length∧(∀ b,codesN us b=codesS l b)∧∀ b e,altN us b e=altS l b e
 | us,[],h,_=>by
  rw [unfSs] at h
  obtain rfl:=shUs_nil h
  exact ⟨rfl,rfl,fun _=>rfl,fun _ _=>rfl⟩
 | us,s :: l,h,ih=>by
  rw [unfSs] at h
  obtain ⟨u,us',rfl,h1,h2⟩:=shUs_cons h
  obtain ⟨e1,e2⟩:=ih s zzH u h1
  obtain ⟨g1,g2,g3,g4⟩:=codes_eq h2 fun x hx=>ih x (zzI _ hx)
  refine ⟨by rw [lensN,lensS,e1,g1],by rw [zzO,zzO,g2],fun b=>by rw [codesN,codesS,e1,e2,g3],fun b e=>?_⟩
  have he:us'.isEmpty=l.isEmpty:=by
   cases us' <;> cases l <;> simp at g2 <;> rfl
  rw [altN,altS,he,e1,e2,e2,g4]
theorem simp_rep {x:Tr.Tr} {n m:Int} {z:Bool} {a:Int} (h:simpB (repT x n m z) a=true) (h0:0≤n) (hm:m=-1∨(n≤m∧m≤1000)):simpB x 6=true∧((n=0∧m=1)∨(n=0∧m=-1)∨(n=1∧m=-1)):=by
 rw [simpB_iff] at h
 obtain ⟨h1,-,h3⟩:=h
 refine ⟨h3 x (List.mem_singleton_self _),?_⟩
 unfold repT badRep at h1
 rw [decide_eq_false_iff_not] at h1
 omega
theorem code_eq:∀ (s:Tr.Tr),allB s=true→∀ a,simpB s a=true→∀ v,shU v=unfS s→CodeEq v s:=by
 intro s
 induction s using Tr.Tr.ind with
 | h s ih =>
  intro h a hsi v hv
  cases kinds h with
  | empty =>
   obtain ⟨ad,us,rfl,hu⟩:=shU_mk (show shU v=.mk 1 [] 0 0 false [] from hv)
   obtain rfl:=shUs_nil hu
   exact ⟨rfl,fun b=>rfl⟩
  | cls r hr =>
   obtain ⟨ad,us,rfl,hu⟩:=shU_mk (show shU v=.mk 2 r 0 0 false [] from hv)
   obtain rfl:=shUs_nil hu
   exact ⟨rfl,fun b=>rfl⟩
  | ass x hx =>
   obtain ⟨ad,us,rfl,hu⟩:=shU_mk (show shU v=.mk 3 [] x 0 false [] from hv)
   obtain rfl:=shUs_nil hu
   exact ⟨rfl,fun b=>rfl⟩
  | cat l h2 hs =>
   obtain ⟨ad,us,rfl,hu⟩:=shU_mk (show shU v=.mk 4 [] 0 0 false (unfSs l) from hv)
   have hsub:=((simpB_iff _ _).1 hsi).2.2
   obtain ⟨g1,g2,g3,g4⟩:=codes_eq hu fun x hx=>ih x hx (hs x hx) _ (hsub x hx)
   refine ⟨?_,fun b=>?_⟩
   ·rw [catT,lenS];simp [lenN,g1]
   ·rw [catT,codeS];simp [codeN,g3]
  | alt l h2 hs =>
   obtain ⟨ad,us,rfl,hu⟩:=shU_mk (show shU v=.mk 5 [] 0 0 false (unfSs l) from hv)
   have hsub:=((simpB_iff _ _).1 hsi).2.2
   obtain ⟨g1,g2,g3,g4⟩:=codes_eq hu fun x hx=>ih x hx (hs x hx) _ (hsub x hx)
   refine ⟨?_,fun b=>?_⟩
   ·rw [lenN_eq,altT,lenS]
    show (if (5:Int)=2∨(5:Int)=3 then 1 else if (5:Int)=7∨(5:Int)=-2 then lensN us+2 else if (5:Int)=5 then lensN us+2*(us.length - 1) else _)=_
    rw [g1,g2];simp
   ·rw [codeN_eq,altT,codeS]
    show (if (5:Int)=2 then _ else if (5:Int)=3 then _ else if (5:Int)=7 then _ else if (5:Int)=5 then altN us b (b+(lensN us+2*(us.length - 1))) else _)=_
    rw [g1,g2,g4];simp
  | group x i nm hx h0 h1 hm =>
   obtain ⟨ad,us,rfl,hu⟩:=shU_mk (show shU v=.mk 7 [] 0 i false (unfSs [x]) from hv)
   have hsub:=((simpB_iff _ _).1 hsi).2.2
   obtain ⟨g1,g2,g3,g4⟩:=codes_eq hu fun y hy=>ih y hy (by rw [zzE] at hy;rw [hy];exact hx) _ (hsub y hy)
   refine ⟨?_,fun b=>?_⟩
   ·rw [lenN_eq,groupT,lenS]
    show (if (7:Int)=2∨(7:Int)=3 then 1 else if (7:Int)=7∨(7:Int)=-2 then lensN us+2 else _)=_
    rw [g1];simp
   ·rw [codeN_eq,groupT,codeS]
    show (if (7:Int)=2 then _ else if (7:Int)=3 then _ else if (7:Int)=7 then (⟨3,(b+1:Nat),0,2*i,[]⟩ :: (codesN us (b+1)++[⟨3,(b+1+lensN us+1:Nat),0,2*i+1,[]⟩]):List Ins) else _)=_
    rw [g1,g3];simp
  | rep x n m z hx h0 h1 hm =>
   obtain ⟨hsx,hnm⟩:=simp_rep hsi h0 hm
   have hux:∀ w,shU w=unfS x→CodeEq w x:=ih x (List.mem_singleton_self _) hx _ hsx
   rcases hnm with ⟨rfl,rfl⟩ | ⟨rfl,rfl⟩ | ⟨rfl,rfl⟩
   ·obtain ⟨ad,us,rfl,hu⟩:=shU_mk (show shU v=.mk 4 [] 0 0 false [loopU (-1) z (unfS x)] from hv)
    obtain ⟨q,l',rfl,hq,hl'⟩:=shUs_cons hu
    obtain rfl:=shUs_nil hl'
    obtain ⟨ad2,us2,rfl,hu2⟩:=shU_mk hq
    obtain ⟨w,l2,rfl,hw,hl2⟩:=shUs_cons hu2
    obtain rfl:=shUs_nil hl2
    obtain ⟨g1,g2⟩:=hux w hw
    refine ⟨?_,fun b=>?_⟩
    ·rw [repT,lenS];simp [lenN,lensN,lensS,g1]
    ·rw [repT,codeS];simp [codeN,codesN,codesS,lensN,lensS,g1,g2]
   ·obtain ⟨ad2,us2,rfl,hu2⟩:=shU_mk (show shU v=.mk (-2) [] 0 0 z [unfS x] from hv)
    obtain ⟨w,l2,rfl,hw,hl2⟩:=shUs_cons hu2
    obtain rfl:=shUs_nil hl2
    obtain ⟨g1,g2⟩:=hux w hw
    refine ⟨?_,fun b=>?_⟩
    ·rw [repT,lenS];simp [lenN,lensN,lensS,g1]
    ·rw [repT,codeS];simp [codeN,codesN,codesS,lensN,lensS,g1,g2]
   ·obtain ⟨ad,us,rfl,hu⟩:=shU_mk (show shU v=.mk 4 [] 0 0 false [loopU (-3) z (unfS x)] from hv)
    obtain ⟨q,l',rfl,hq,hl'⟩:=shUs_cons hu
    obtain rfl:=shUs_nil hl'
    obtain ⟨ad2,us2,rfl,hu2⟩:=shU_mk hq
    obtain ⟨w,l2,rfl,hw,hl2⟩:=shUs_cons hu2
    obtain rfl:=shUs_nil hl2
    obtain ⟨g1,g2⟩:=hux w hw
    refine ⟨?_,fun b=>?_⟩
    ·rw [repT,lenS];simp [lenN,lensN,lensS,g1]
    ·rw [repT,codeS];simp [codeN,codesN,codesS,lensN,lensS,g1,g2]
theorem lay_of {s:Tr.Tr} {v:Un} {c:Int} (hall:allB s=true) (hsi:simpB s 0=true) (hv:v=mkV (unfS s) 0):Lay (fun i=>(⟨progL s,0,c⟩:Prg).insts[i]?) (posB v 1) (lenS s+1):=by
 have hsh:shU v=unfS s:=by rw [hv];exact mkV_sh _ _
 obtain ⟨g1,g2⟩:=code_eq s hall 0 hsi v hsh
 have hw:∀ n∈v.all,nodeW n:=ru_nodes v (by rw [hsh];exact ru_unf s hall)
 have hnd:((posB v 1).map fun q=>q.1.ad).Nodup:=by
  rw [posB_ads,hv,mkV_ads];exact List.nodup_range'
 have hins:∀ i:Nat,(⟨progL s,0,c⟩:Prg).insts[i]?=(⟨3,(1:Nat),0,0,[]⟩ :: (codeS s 1++[⟨3,(lenS s+2:Nat),0,1,[]⟩,⟨5,0,0,0,[]⟩]):List Ins)[i]?:=fun i=>rfl
 refine ⟨?_,fun q hq=>hw _ (pos_node hq),fun q hq=>?_,fun q hq r hr e=>nodup_one hnd hq hr e,fun q hq r hr i hi hj=>own_one v 1 hw q hq r hr i hi hj,?_,?_⟩
 ·refine loc_all v 1 hw (fun _ h=>h) ?_
  intro j x hx
  show (⟨progL s,0,c⟩:Prg).insts[1+j]?=some x
  rw [hins,Nat.add_comm 1 j,zzX,List.getElem?_append_left,←g2,hx]
  rw [←g2];exact (zzK.1 hx).1
 ·have:=pos_node hq
  rw [hv] at this
  exact mkV_nm _ _ _ this
 ·show (⟨progL s,0,c⟩:Prg).insts[lenS s+1]?=_
  rw [hins,zzX,List.getElem?_append_right (by rw [code_length];exact zzF _),code_length,Nat.sub_self];rfl
 ·show (⟨progL s,0,c⟩:Prg).insts[lenS s+1+1]?=_
  rw [hins,zzX,List.getElem?_append_right (by rw [code_length];omega),code_length,show lenS s+1 - lenS s=1 from by omega];rfl
theorem first_done {s:Tr.Tr} {c:Int} (hall:allB s=true) (hsi:simpB s 0=true) {t:List Int} {b:Nat} {s':St}
  (h:One t b st0 (.beg (mkV (unfS s) 0) b (List.replicate c.toNat (-1)) .top) s'):∃ M',DOne ⟨progL s,0,c⟩ t (fun _ _=>false) (List.replicate c.toNat (-1)) (0,b) M' (s'.out.head?.map fun q=>(q.2,0)):=by
 obtain ⟨v,hv⟩:∃ v,v=mkV (unfS s) 0:=⟨_,rfl⟩
 rw [←hv] at h
 have L:=lay_of (c:=c) hall hsi hv
 have hlen:lenN v=lenS s:=(code_eq s hall 0 hsi v (by rw [hv];exact mkV_sh _ _)).1
 have h0:(⟨progL s,0,c⟩:Prg).insts[0]?=some ⟨3,(1:Nat),0,0,[]⟩:=rfl
 have hI:Inv (fun i=>(⟨progL s,0,c⟩:Prg).insts[i]?) (posB v 1) (lenS s+1) t st0 (setM (fun _ _=>false) 0 b) (some (1,b)) 0 []:=by
  refine ⟨fun q _ k hm=>absurd rfl hm,fun q _ k hm=>absurd rfl hm,fun q hq i hi k hm=>?_,fun i k x hx hx2 hm r hr=>?_,fun r hr=>(nomatch hr),fun k=>?_⟩
  ·exfalso
   obtain ⟨x,hx,ho⟩:=L.own_op hq hi
   rcases setM_iff.1 hm with hm | ⟨rfl,rfl⟩
   ·cases hm
   ·have hx:(⟨progL s,0,c⟩:Prg).insts[0]?=some x:=hx
    rw [h0] at hx
    simp only [zzd] at hx
    subst hx
    simp at ho
  ·rcases setM_iff.1 hm with hm | ⟨rfl,rfl⟩
   ·cases hm
   ·have hx:(⟨progL s,0,c⟩:Prg).insts[0]?=some x:=hx
    rw [h0] at hx
    simp only [zzd] at hx
    subst hx
    rw [nexts_cap,zzE] at hr
    exact .inr (by rw [hr])
  ·unfold setM;simp
 have hcn:Cn (fun i=>(⟨progL s,0,c⟩:Prg).insts[i]?) (posB v 1) (lenS s+1) [.b v] 1 0:=.b (posB_self v 1) (zzZ _) (by rw [hlen,Nat.add_comm];exact .top)
 have hf:OneF t b st0 (goF [.b v] b (List.replicate c.toNat (-1))) s':=one_f h
 obtain ⟨M',r,hd,hr⟩:=run_task L hf [.b v] 1 0 b (List.replicate c.toNat (-1)) (setM (fun _ _=>false) 0 b) [] hcn rfl hI rfl
 have hd0:DOne ⟨progL s,0,c⟩ t (fun _ _=>false) (List.replicate c.toNat (-1)) (0,b) M' r:=by
  refine .step (q:=(0,b)) rfl h0 (by simp) ?_
  rw [nexts_cap,show capsAt ⟨3,(1:Nat),0,0,[]⟩ b (List.replicate c.toNat (-1))=(List.replicate c.toNat (-1)).set 0 (b:Int) from by unfold capsAt;rw [if_pos rfl];rfl]
  exact .one _ t hd
 refine ⟨M',?_⟩
 cases r with
 | none=>rw [hr.1];exact hd0
 | some w =>
  obtain ⟨h1,e',l,h2⟩:=hr
  rw [h2]
  have hw:w=(w.1,0):=by rw [←h1]
  rw [hw] at hd0
  exact hd0
theorem prog_done {tr:Tr.Tr} {c:Int} (hall:allB tr=true) {t:List Int} {b:Nat} (hb:b≤t.length) {u:Un} (hsu:shU u=unfS tr) (hu:(u.all.map Un.ad).Nodup) {s':St}
  (h:One t b st0 (.beg u b (List.replicate c.toNat (-1)) .top) s'):∃ M',DOne ⟨progL (simpleS tr),0,c⟩ t (fun _ _=>false) (List.replicate c.toNat (-1)) (0,b) M' (s'.out.head?.map fun q=>(q.2,0)):=by
 obtain ⟨halls,hsi⟩:=simple_good tr hall
 obtain ⟨s2,h2⟩:=run_ex (t:=t) (at_:=b) (nt:=List.replicate c.toNat (-1)) (mkV (unfS (simpleS tr)) 0) hb
 have e:=simple_out hall halls hb hsu (mkV_sh (unfS (simpleS tr)) 0) hu (by rw [mkV_ads];exact List.nodup_range') h h2
 rw [e]
 exact first_done halls hsi h2
end Mean
end Go.Proofs.Ytkhkllpdhnmhkaa
