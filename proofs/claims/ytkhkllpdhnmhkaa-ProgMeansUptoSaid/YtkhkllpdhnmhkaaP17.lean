/- heronref06's Tree.unfold. -/
import Derived.Test.YtkhkllpdhnmhkaaP16
namespace Go.Proofs.Ytkhkllpdhnmhkaa
open Go.RowKit Mean
theorem sub_cells {X:List Nat} {rb bs os sc i:Nat} {v v':Value} {w w':World} {l:List Ta} {u:Ta} (hN:RdA w (Fs X rb v w) 9 (some ⟨bs,os,none⟩) l.length sc (rowT l)) (k:RKI rb v w v' w') (hu:l[i]?=some u):∀ q x,q < 9→u.vals[q]?=some x→w'.cell? ⟨bs,os+i*9+q,none⟩=some x:=fun q x hq hx=>by
 obtain ⟨b,o,e,-,hcs⟩:=(hN.rki k).2.2.2.2 (by have:=(zzK.1 hu).1;omega)
 simp only [zzd,Addr.mk.injEq,and_true] at e
 obtain ⟨rfl,rfl⟩:=e
 rw [Nat.add_assoc]
 exact hcs (i*9+q) x ((rowT_get l i q _ hu hq).trans hx)
theorem szUs_take:∀ {l:List Us} {i:Nat} {x:Us},l[i]?=some x→szUs (l.take i)+szU x≤szUs l
 | [],_,_,h=>by simp at h
 | y :: l,0,x,h=>by
  simp only [zzR,zzd] at h
  rw [h,List.take_zero,szUs,szUs];omega
 | y :: l,i+1,x,h=>by
  have:=szUs_take (l:=l) (i:=i) (by simpa using h)
  rw [List.take_succ_cons,szUs,szUs];omega
theorem kindR_id {k:Int} (h:k≠-1∧k≠-2∧k≠-3):k=kindR k:=by unfold kindR;rw [if_neg h.1,if_neg h.2.1,if_neg h.2.2]
theorem RKI.store {rb b q:Nat} {v v1:Value} {w w1:World} {x:Value} (h:RKI rb v w v1 w1) (hb:w.heap.size≤b):RKI rb v w v1 (w1.setCell ⟨b,q,none⟩ x):=by
 refine ⟨(h.kept.trans (Kept.setCell ⟨b,q,none⟩ x)).more fun y hy=>?_,h.ow⟩
 rcases zzM.1 hy with hy | hy
 ·exact .inl hy
 ·rw [zzE] at hy
  exact .inr (by rw [hy];exact hb)
theorem Acc.store {X:List Nat} {rb b q:Nat} {v V x:Value} {L:List NdV} {l:List Nat} {w:World} (h:Acc (b :: X) rb v L w V l) (h1:b≠rb) (h2:v.ownBlock≠some b) (h3:V.ownBlock≠some b):Acc (b :: X) rb v L (w.setCell ⟨b,q,none⟩ x) V l:=by
 have hk:Kept w (w.setCell ⟨b,q,none⟩ x) [b]:=Kept.setCell _ _
 refine ⟨h.tb.free hk (fun y hy=>?_) (fun y hy=>.inl hy),own_kept h.own hk (fun y hy hm=>?_),h.far,h.fresh⟩
 ·rw [zzE] at hy
  subst hy
  exact ⟨zzV _ zzH,h1,h2⟩
 ·rw [zzE] at hm
  subst hm
  exact h3 hy
theorem NB.store {rb b:Nat} {ty:TypeId} {cs:List Value} {v x:Value} {w:World} {q:Nat} (h:NB rb b ty cs v w):NB rb b ty (cs.set q x) v (w.setCell ⟨b,q,none⟩ x):=⟨h.blk.set_ q x,h.ne,h.sep⟩
theorem NB.far {rb b b':Nat} {ty:TypeId} {cs:List Value} {v x:Value} {w:World} {q:Nat} (h:NB rb b ty cs v w) (hne:b≠b'):NB rb b ty cs v (w.setCell ⟨b',q,none⟩ x):=⟨h.blk.far (p:=⟨b',q,none⟩) hne _,h.ne,h.sep⟩
theorem NB.grown {rb b:Nat} {ty:TypeId} {cs:List Value} {v V:Value} {w w':World} (h:NB rb b ty cs v w) (hg:w.grownBy w' V.ownBlock) (hne:V.ownBlock≠some b):NB rb b ty cs v w' :=
 ⟨h.blk.kept (Kept.of_grown' hg) fun hm=>hne (by simpa using hm),h.ne,h.sep⟩
set_option maxRecDepth 100000 in
theorem rrepeat_any (X:List Nat) (rb:Nat) (k:Int) (r:List (Int × Int)) (ra:Option Addr) (rc:Nat) (ast:Int) (sa:Option Addr) (sc:Nat) (mn mx:Int) (z:Bool) (ix:Int) (nm:ByteArray) (s:Ta) (v:Value) (L:List NdV) (w:World) (h0:0≤mn) (hm:mx=-1∨mn≤mx) (H0:UnfOk6 s) (h:RT w (Fs X rb v w) (Ta.mk k r ra rc ast [s] sa sc mn mx z ix nm)) (htb:TbR X rb v L w) (hsz:L.length+szU (repR (unfR s.tr) mn mx z)≤1000000000) :
  Calls Try.prog 37 #[.pointer (some ⟨rb,0,none⟩),(Ta.mk k r ra rc ast [s] sa sc mn mx z ix nm).val] w fun e w'=>∃ v' L' u,e=.returned (.int .i64 (u.ad:Int))∧TbR X rb v' L' w'∧RKI rb v w v' w'∧BuiltL L L' [u]∧shU u=repR (unfR s.tr) mn mx z:=by
 by_cases h1:mx=-1
 ·subst h1
  by_cases h2:mn=0
  ·subst h2
   have e:repR (unfR s.tr) 0 (-1) z=loopU (-2) z (unfR s.tr):=by unfold repR;rw [if_pos rfl,if_pos rfl]
   rw [e] at hsz ⊢
   exact rrep_star X rb k r ra rc ast sa sc 0 0 z ix nm s v L w H0 h htb hsz
  ·exact rrep_b X rb k r ra rc ast sa sc mn z ix nm s v L w (mn - 1).toNat (by omega) H0 h htb hsz
 ·by_cases h2:mx=mn
  ·exact rrep_c X rb k r ra rc ast sa sc mn mx z ix nm s v L w mn.toNat (by omega) h2 H0 h htb hsz
  ·exact rrep_d X rb k r ra rc ast sa sc mn mx z ix nm s v L w mn.toNat (mx - mn - 1).toNat (by omega) (by omega) H0 h htb hsz
set_option maxRecDepth 100000 in
set_option maxHeartbeats 8000000 in
theorem runfold_any:∀ t:Ta,Tr.allB t.tr=true→UnfOk6 t:=by
 intro t
 induction t using Ta.ind with
 | h t ih =>
 intro hall X rb v L w h htb hsz
 cases t with
 | mk k r ra rc ast l sa sc mn mx z ix nm =>
 obtain ⟨hnb,hsub⟩:=(Tr.allB_iff _).1 hall
 have hih:∀ u∈l,UnfOk6 u:=fun u hu=>ih u hu (hsub u.tr (by show u.tr∈trs l;rw [trs_map];exact List.mem_map_of_mem hu))
 by_cases k6:k=6
 ·subst k6
  unfold Tr.nodeB Tr.nodeF at hnb
  simp only [Ta.tr,reduceIte,Int.reduceEq,zzc,Bool.or_eq_true,decide_eq_true_eq,beq_iff_eq] at hnb
  obtain ⟨-,hl1,h0,hm⟩:=hnb
  rw [trs_map,zzP] at hl1
  obtain ⟨s,rfl⟩:=List.length_eq_one_iff.1 hl1
  have e:unfR (Ta.mk 6 r ra rc ast [s] sa sc mn mx z ix nm).tr=repR (unfR s.tr) mn mx z:=by
   rw [Ta.tr,unfR,if_neg (by decide)];rfl
  rw [e] at hsz ⊢
  have hb0:Below w.heap.size w (w.alloc (.cells #[.int .i64 6,.slice ra r.length rc,.int .i64 ast,.slice sa 1 sc,.int .i64 mn,.int .i64 mx,.bool z,.int .i64 ix,.string nm] 25)):=(zzb _ _).alloc (zzF _) _
  have hbl:=Blk.new w 25 [.int .i64 6,.slice ra r.length rc,.int .i64 ast,.slice sa 1 sc,.int .i64 mn,.int .i64 mx,.bool z,.int .i64 ix,.string nm]
  have hk0:RKI rb v w v (w.alloc (.cells #[.int .i64 6,.slice ra r.length rc,.int .i64 ast,.slice sa 1 sc,.int .i64 mn,.int .i64 mx,.bool z,.int .i64 ix,.string nm] 25)):=.of_below hb0
  have hc:=rrepeat_any X rb 6 r ra rc ast sa sc mn mx z ix nm s v L (w.alloc (.cells #[.int .i64 6,.slice ra r.length rc,.int .i64 ast,.slice sa 1 sc,.int .i64 mn,.int .i64 mx,.bool z,.int .i64 ix,.string nm] 25)) h0 (by omega) (hih s zzH) (h.rki hk0) (htb.below hb0) hsz
  simp only [Ta.val,Ta.vals,zzO,List.length_nil,Nat.zero_add] at hc ⊢
  have HC:=zzA hc
  have HK:=zzA hk0
  obtain ⟨xr0,xr1,xr2,xr3,xr4,xr5,xr6,xr7,xr8⟩:=bc9 (hbl)
  clear hc hk0 h htb hb0 hbl ih hih
  go_enter Try.func25,Try.ntmps25
  go_wp2_with fail
  refine HC.out.mono ?_
  rintro e w' ⟨v',L',u,rfl,ht,hk,hb,hs⟩
  (try simp only [])
  go_wp2_with fail
  go_ret
  exact ⟨v',L',u,rfl,ht,HK.out.trans hk,hb,hs⟩
 have hkind:(k==6)=false:=by rw [beq_eq_false_iff_ne];exact k6
 have hkr:k≠-1∧k≠-2∧k≠-3:=by
  unfold Tr.nodeB Tr.nodeF at hnb
  refine ⟨fun e=>?_,fun e=>?_,fun e=>?_⟩ <;> (subst e;simp [Ta.tr] at hnb)
 obtain ⟨hP,hN,hL⟩:=h.parts
 have hR:=hP.1
 have hll:=hP.2.2.1
 have HKR:=zzA hkr
 have HIH:=zzA hih
 have HN:=zzA hN
 have HR:=zzA hR
 have HL:=zzA hL
 have hsc:=hN.1
 have hsc2:=hN.2.1
 have hb0:Below w.heap.size w (w.alloc (.cells #[.int .i64 k,.slice ra r.length rc,.int .i64 ast,.slice sa l.length sc,.int .i64 mn,.int .i64 mx,.bool z,.int .i64 ix,.string nm] 25)):=(zzb _ _).alloc (zzF _) _
 have hb1:Below (w.alloc (.cells #[.int .i64 k,.slice ra r.length rc,.int .i64 ast,.slice sa l.length sc,.int .i64 mn,.int .i64 mx,.bool z,.int .i64 ix,.string nm] 25)).heap.size (w.alloc (.cells #[.int .i64 k,.slice ra r.length rc,.int .i64 ast,.slice sa l.length sc,.int .i64 mn,.int .i64 mx,.bool z,.int .i64 ix,.string nm] 25)) ((w.alloc (.cells #[.int .i64 k,.slice ra r.length rc,.int .i64 ast,.slice sa l.length sc,.int .i64 mn,.int .i64 mx,.bool z,.int .i64 ix,.string nm] 25)).alloc (.cells #[.int .i64 k,.int .i64 ast,.int .i64 ix,.slice ra r.length rc,.slice none 0 0,.bool false,.int .i64 0,.int .i64 0] 87)):=(zzb _ _).alloc (zzF _) _
 have hb2:Below w.heap.size w ((w.alloc (.cells #[.int .i64 k,.slice ra r.length rc,.int .i64 ast,.slice sa l.length sc,.int .i64 mn,.int .i64 mx,.bool z,.int .i64 ix,.string nm] 25)).alloc (.cells #[.int .i64 k,.int .i64 ast,.int .i64 ix,.slice ra r.length rc,.slice none 0 0,.bool false,.int .i64 0,.int .i64 0] 87)):=hb0.alloc (by simp) _
 have hnx:=htb.new 25 [.int .i64 k,.slice ra r.length rc,.int .i64 ast,.slice sa l.length sc,.int .i64 mn,.int .i64 mx,.bool z,.int .i64 ix,.string nm]
 have hny:=(htb.below hb0).new 87 [.int .i64 k,.int .i64 ast,.int .i64 ix,.slice ra r.length rc,.slice none 0 0,.bool false,.int .i64 0,.int .i64 0]
 rw [show (w.alloc (.cells #[.int .i64 k,.slice ra r.length rc,.int .i64 ast,.slice sa l.length sc,.int .i64 mn,.int .i64 mx,.bool z,.int .i64 ix,.string nm] 25)).heap.size=w.heap.size+1 from by simp] at hny
 have HNX:=zzA ((show RKI rb v (w.alloc (.cells #[.int .i64 k,.slice ra r.length rc,.int .i64 ast,.slice sa l.length sc,.int .i64 mn,.int .i64 mx,.bool z,.int .i64 ix,.string nm] 25)) v ((w.alloc (.cells #[.int .i64 k,.slice ra r.length rc,.int .i64 ast,.slice sa l.length sc,.int .i64 mn,.int .i64 mx,.bool z,.int .i64 ix,.string nm] 25)).alloc (.cells #[.int .i64 k,.int .i64 ast,.int .i64 ix,.slice ra r.length rc,.slice none 0 0,.bool false,.int .i64 0,.int .i64 0] 87)) from .of_below hb1).nb hnx)
 have HNY:=zzA hny
 have HAC:=zzA (Acc.nil (htb.add (X':=(w.heap.size+1) :: X) hb2 (fun x hx=>by
  rcases zzN.1 hx with rfl | hx
  ·exact .inr ⟨by omega,by simp⟩
  ·exact .inl hx)))
 have HK:=zzA (show RKI rb v w v ((w.alloc (.cells #[.int .i64 k,.slice ra r.length rc,.int .i64 ast,.slice sa l.length sc,.int .i64 mn,.int .i64 mx,.bool z,.int .i64 ix,.string nm] 25)).alloc (.cells #[.int .i64 k,.int .i64 ast,.int .i64 ix,.slice ra r.length rc,.slice none 0 0,.bool false,.int .i64 0,.int .i64 0] 87)) from .of_below hb2)
 obtain ⟨SH,hSH⟩:∃ SH,SH=unfRs (trs l):=⟨_,rfl⟩
 have HSH:=zzA hSH
 have HSZ:=zzA (show L.length+szUs SH+1≤1000000000 from by
  rw [Ta.tr,unfR,if_pos k6,szU] at hsz
  rw [hSH];omega)
 have HK6:=zzA k6
 have HNEX:=zzA hnx.ne
 have hbx:=hnx.blk
 obtain ⟨xr0,xr1,xr2,xr3,xr4,xr5,xr6,xr7,xr8⟩:=bc9 (hbx)
 simp only [Ta.val,Ta.vals]
 clear h htb hsz hb0 hb1 hb2 hnx hny hN hR hL ih hih hP hSH k6 hkr hnb hsub hall hbx
 go_enter Try.func25,Try.ntmps25
 go_wp2_with fail
 clear xr0 xr1 xr2 xr3 xr4 xr5 xr6 xr7 xr8
 generalize ((w.alloc (.cells #[.int .i64 k,.slice ra r.length rc,.int .i64 ast,.slice sa l.length sc,.int .i64 mn,.int .i64 mx,.bool z,.int .i64 ix,.string nm] 25)).alloc (.cells #[.int .i64 k,.int .i64 ast,.int .i64 ix,.slice ra r.length rc,.slice none 0 0,.bool false,.int .i64 0,.int .i64 0] 87))=w1 at *
 go_loopw [6] (fun iv wr=>∃ (i:Nat) (A:Option Addr) (c:Nat) (us:List Un) (v':Value) (L':List NdV),i≤l.length∧iv=.int .i64 (i:Int)∧Acc ((w.heap.size+1) :: X) rb v' L' wr (.slice A us.length c) (us.map Un.ad)∧RKI rb v w v' wr∧BuiltL L L' us∧us.map shU=SH.take i∧us.length=i∧(∀ g,(Value.slice A us.length c).ownBlock=some g→w.heap.size+2≤g) ∧
  NB rb w.heap.size 25 [.int .i64 k,.slice ra r.length rc,.int .i64 ast,.slice sa l.length sc,.int .i64 mn,.int .i64 mx,.bool z,.int .i64 ix,.string nm] v' wr∧NB rb (w.heap.size+1) 87 [.int .i64 k,.int .i64 ast,.int .i64 ix,.slice ra r.length rc,(.slice A us.length c),.bool false,.int .i64 0,.int .i64 0] v' wr∧w.heap.size+2≤wr.heap.size) (fun iv _=>l.length - (intOf iv).toNat)
 case atStart=>exact ⟨0,none,0,[],v,L,zzZ _,rfl,HAC.out,HK.out,BuiltL.nil L,rfl,rfl,(fun g hg=>by cases hg),HNX.out,HNY.out,HNY.out.blk.lt⟩
 case round =>
  obtain ⟨i,A,c,us,v',L',hi,rfl,hac,hk,hbu,hsh,hul,hfr,hnx,hny,hws⟩:=hrel
  obtain ⟨wl,hwl⟩:∃ wl,wl=wr:=⟨_,rfl⟩
  subst hwl
  have hxb:=hnx.blk
  have hyb:=hny.blk
  have hx3:wl.cell? ⟨w.heap.size,3,none⟩=some (.slice sa l.length sc):=hxb.cell 3
  have HACL:=zzA hac
  have HKL:=zzA hk
  have HBU:=zzA hbu
  have HSHL:=zzA hsh
  have HUL:=zzA hul
  have HFR:=zzA hfr
  have HNXL:=zzA hnx
  have HNYL:=zzA hny
  have HWS:=zzA hws
  have hrr:=hac.own
  rw [zzP] at hrr
  have hr1:=(Reads.of_own hrr).1
  have hr2:=(Reads.of_own hrr).2.1
  by_cases hlt:i < l.length
  ·have hlt2:(i:Int) < (l.length:Int):=by omega
   obtain ⟨u,hu⟩:∃ u,l[i]?=some u:=⟨_,zzJ hlt⟩
   obtain ⟨bs,os,rfl,hbs,hcs⟩:=(HN.out.rki hk).2.2.2.2 (by omega)
   have hum:=zzL hu
   have HU:=zzA (HIH.out u hum)
   have HRT:=zzA ((HL.out u hum).grow (X':=(Value.slice A us.length c).ownBlock.toList++((w.heap.size+1) :: X)) hk (fun x hx=>by
    rcases zzM.1 hx with hx | hx
    ·exact .inr (by have:=hfr x (by simpa using hx);omega)
    ·rcases zzN.1 hx with rfl | hx
     ·exact .inr (by omega)
     ·exact .inl hx))
   have hSu:SH[i]?=some (unfR u.tr):=by rw [HSH.out,unfRs_map,trs_map,List.map_map,zza,hu];rfl
   have hL':L'.length=L.length+szUs (SH.take i):=built_len hbu hsh
   have hsz6:L'.length+szU (unfR u.tr)≤1000000000:=by
    have h1:=HSZ.out
    have h2:szUs (SH.take i)+szU (unfR u.tr)≤szUs SH:=szUs_take hSu
    omega
   have HSU:=zzA hSu
   have HUU:=zzA hu
   obtain ⟨tt,htt⟩:∃ tt,tt=unfR u.tr:=⟨_,rfl⟩
   unfold UnfOk6 at HU
   rw [←htt] at HU hsz6 HSU
   have hg:=fun (q:Nat) (hq:q < 9)=>rowT_get l i q _ hu hq
   cases u with
   | mk k2 r2 ra2 rc2 a2 l2 sa2 sc2 mn2 mx2 z2 ix2 nm2 =>
   have sr:∀ q x,q < 9→(Ta.mk k2 r2 ra2 rc2 a2 l2 sa2 sc2 mn2 mx2 z2 ix2 nm2).vals[q]?=some x→wl.cell? ⟨bs,os+i*9+q,none⟩=some x:=fun q x hq hx=>by
    rw [Nat.add_assoc]
    exact hcs (i*9+q) x ((hg q hq).trans hx)
   have sr0:wl.cell? ⟨bs,os+i*9,none⟩=some (.int .i64 k2):=sr 0 _ (by decide) rfl
   have sr1:wl.cell? ⟨bs,os+i*9+1,none⟩=some (.slice ra2 r2.length rc2):=sr 1 _ (by decide) rfl
   have sr2:wl.cell? ⟨bs,os+i*9+2,none⟩=some (.int .i64 a2):=sr 2 _ (by decide) rfl
   have sr3:wl.cell? ⟨bs,os+i*9+3,none⟩=some (.slice sa2 l2.length sc2):=sr 3 _ (by decide) rfl
   have sr4:wl.cell? ⟨bs,os+i*9+4,none⟩=some (.int .i64 mn2):=sr 4 _ (by decide) rfl
   have sr5:wl.cell? ⟨bs,os+i*9+5,none⟩=some (.int .i64 mx2):=sr 5 _ (by decide) rfl
   have sr6:wl.cell? ⟨bs,os+i*9+6,none⟩=some (.bool z2):=sr 6 _ (by decide) rfl
   have sr7:wl.cell? ⟨bs,os+i*9+7,none⟩=some (.int .i64 ix2):=sr 7 _ (by decide) rfl
   have sr8:wl.cell? ⟨bs,os+i*9+8,none⟩=some (.string nm2):=sr 8 _ (by decide) rfl
   simp only [Ta.val,Ta.vals] at HU
   have hi9:us.length≤1000000000:=by omega
   clear hu hcs hum hSu hL' htt hg sr hac hk hbu hsh hul hfr hnx hny hws hxb hrr
   go_wp2_with fail
   have kA:=(show wl.cell? ⟨w.heap.size,3,none⟩=some (.slice (some ⟨bs,os,none⟩) l.length sc)∧wl.cell? ⟨bs,os+i*9,none⟩=some (.int .i64 k2)∧wl.cell? ⟨bs,os+i*9+1,none⟩=some (.slice ra2 r2.length rc2)∧wl.cell? ⟨bs,os+i*9+2,none⟩=some (.int .i64 a2)∧wl.cell? ⟨bs,os+i*9+3,none⟩=some (.slice sa2 l2.length sc2)∧wl.cell? ⟨bs,os+i*9+4,none⟩=some (.int .i64 mn2)∧wl.cell? ⟨bs,os+i*9+5,none⟩=some (.int .i64 mx2)∧wl.cell? ⟨bs,os+i*9+6,none⟩=some (.bool z2)∧wl.cell? ⟨bs,os+i*9+7,none⟩=some (.int .i64 ix2)∧wl.cell? ⟨bs,os+i*9+8,none⟩=some (.string nm2) from ⟨HNXL.out.blk.cell 3,sub_cells HN.out (HKL.out) HUU.out 0 _ (by decide) rfl,sub_cells HN.out (HKL.out) HUU.out 1 _ (by decide) rfl,sub_cells HN.out (HKL.out) HUU.out 2 _ (by decide) rfl,sub_cells HN.out (HKL.out) HUU.out 3 _ (by decide) rfl,sub_cells HN.out (HKL.out) HUU.out 4 _ (by decide) rfl,sub_cells HN.out (HKL.out) HUU.out 5 _ (by decide) rfl,sub_cells HN.out (HKL.out) HUU.out 6 _ (by decide) rfl,sub_cells HN.out (HKL.out) HUU.out 7 _ (by decide) rfl,sub_cells HN.out (HKL.out) HUU.out 8 _ (by decide) rfl⟩)
   have ya:wl.drew.cell? ⟨(w.heap.size+1),4,none⟩=some (.slice A us.length c):=hyb.cell 4
   clear sr0 sr1 sr2 sr3 sr4 sr5 sr6 sr7 sr8 hx3 hyb
   refine wp_region_held_drew (S:=(fun u=>u.cell? ⟨w.heap.size,3,none⟩=some (.slice (some ⟨bs,os,none⟩) l.length sc)∧u.cell? ⟨bs,os+i*9,none⟩=some (.int .i64 k2)∧u.cell? ⟨bs,os+i*9+1,none⟩=some (.slice ra2 r2.length rc2)∧u.cell? ⟨bs,os+i*9+2,none⟩=some (.int .i64 a2)∧u.cell? ⟨bs,os+i*9+3,none⟩=some (.slice sa2 l2.length sc2)∧u.cell? ⟨bs,os+i*9+4,none⟩=some (.int .i64 mn2)∧u.cell? ⟨bs,os+i*9+5,none⟩=some (.int .i64 mx2)∧u.cell? ⟨bs,os+i*9+6,none⟩=some (.bool z2)∧u.cell? ⟨bs,os+i*9+7,none⟩=some (.int .i64 ix2)∧u.cell? ⟨bs,os+i*9+8,none⟩=some (.string nm2))) (by kernel_rfl) kA (fun hS0=>?_)
   refine wpAnyH_take (i:=0) (oi:={ dst:=some 29,op:=Op.fieldAddr 87 (Operand.tmp 5) 4,type:=0,pos:= "ref.go:126",after:=#[],guard:=none }) (v:=?_) rfl (by kernel_rfl) (by kernel_rfl) (by kernel_rfl) (fun _ _ _ h=>h) (Or.inl ⟨by rfl,?_⟩) (by assumption) ?_
   rotate_left
   ·intro w hSw;(try dsimp only at hSw);go_simp;(try with_reducible rfl)
   (try simp only [Act.put,zzB,zzD,zzC])
   refine wpAnyH_take (i:=2) (oi:={ dst:=some 31,op:=Op.move (Operand.tmp 0),type:=65,pos:= "ref.go:126",after:=#[],guard:=none }) (v:=?_) rfl (by kernel_rfl) (by kernel_rfl) (by kernel_rfl) (fun _ _ _ h=>h) (Or.inl ⟨by rfl,?_⟩) (by assumption) ?_
   rotate_left
   ·intro w hSw;(try dsimp only at hSw);go_simp;(try with_reducible rfl)
   (try simp only [Act.put,zzB,zzD,zzC])
   refine wpAnyH_take (i:=3) (oi:={ dst:=some 32,op:=Op.fieldAddr 25 (Operand.tmp 3) 3,type:=0,pos:= "ref.go:126",after:=#[],guard:=none }) (v:=?_) rfl (by kernel_rfl) (by kernel_rfl) (by kernel_rfl) (fun _ _ _ h=>h) (Or.inl ⟨by rfl,?_⟩) (by assumption) ?_
   rotate_left
   ·intro w hSw;(try dsimp only at hSw);go_simp;(try with_reducible rfl)
   (try simp only [Act.put,zzB,zzD,zzC])
   refine wpAnyH_take (i:=4) (oi:={ dst:=some 33,op:=Op.load 23 (Operand.tmp 32),type:=23,pos:= "ref.go:126",after:=#[{ on:=3,ground:=Ground.data }],guard:=none }) (v:=?_) rfl (by kernel_rfl) (by kernel_rfl) (by kernel_rfl) (fun _ _ _ h=>h) (Or.inl ⟨by rfl,?_⟩) (by assumption) ?_
   rotate_left
   ·intro w hSw;(try dsimp only at hSw);go_simp;(try with_reducible rfl)
   (try simp only [Act.put,zzB,zzD,zzC])
   refine wpAnyH_take (i:=5) (oi:={ dst:=some 34,op:=Op.move (Operand.tmp 6),type:=3,pos:= "ref.go:126",after:=#[],guard:=none }) (v:=?_) rfl (by kernel_rfl) (by kernel_rfl) (by kernel_rfl) (fun _ _ _ h=>h) (Or.inl ⟨by rfl,?_⟩) (by assumption) ?_
   rotate_left
   ·intro w hSw;(try dsimp only at hSw);go_simp;(try with_reducible rfl)
   (try simp only [Act.put,zzB,zzD,zzC])
   refine wpAnyH_take (i:=6) (oi:={ dst:=some 35,op:=Op.indexAddr 23 (Operand.tmp 33) (Operand.tmp 34),type:=0,pos:= "ref.go:126",after:=#[{ on:=4,ground:=Ground.data },{ on:=5,ground:=Ground.data }],guard:=none }) (v:=?_) rfl (by kernel_rfl) (by kernel_rfl) (by kernel_rfl) (fun _ _ _ h=>h) (Or.inl ⟨by rfl,?_⟩) (by assumption) ?_
   rotate_left
   ·intro w hSw;(try dsimp only at hSw);go_simp;(try with_reducible rfl)
   (try simp only [Act.put,zzB,zzD,zzC])
   refine wpAnyH_take (i:=7) (oi:={ dst:=some 36,op:=Op.load 25 (Operand.tmp 35),type:=25,pos:= "ref.go:126",after:=#[{ on:=6,ground:=Ground.data }],guard:=none }) (v:=?_) rfl (by kernel_rfl) (by kernel_rfl) (by kernel_rfl) (fun _ _ _ h=>h) (Or.inl ⟨by rfl,?_⟩) (by assumption) ?_
   rotate_left
   ·intro w hSw;(try dsimp only at hSw);go_simp;(try with_reducible rfl)
   (try simp only [Act.put,zzB,zzD,zzC])
   refine wpAnyH_ready (rs:=[1,8]) (by kernel_rfl) (by simp) ?_
   refine AllReadyH.cons (o:={ dst:=some 30,op:=Op.load 26 (Operand.tmp 29),type:=26,pos:= "ref.go:126",after:=#[{ on:=0,ground:=Ground.data }],guard:=none }) rfl (fun K hK=>?_) ?_
   ·skip
    go_simp
    refine hK.out _ _ ?_ (fun hHeld=>?_)
    ·exact kA
    clear hK K hHeld
    (try simp only [Act.put,zzB,zzD,zzC])
    refine wpAnyH_ready (rs:=[8]) (by kernel_rfl) (by simp) ?_
    refine AllReadyH.cons (o:={ dst:=some 37,op:=Op.call { callee:=Callee.value (Operand.func 25),args:=#[Operand.tmp 31,Operand.tmp 36],argTypes:=#[65,25] },type:=3,pos:= "ref.go:126",after:=#[{ on:=2,ground:=Ground.data },{ on:=7,ground:=Ground.data }],guard:=none }) rfl (fun K hK=>?_) ?_
    ·skip
     refine step_call6 rfl 25 (.tmp 31) (.tmp 36) 65 25 rfl _ _ rfl rfl (enters6 Try.func25 (by kernel_rfl) (by kernel_rfl)) ?_
     refine (HU.out _ rb v' L' wl.drew (HRT.out.rki (.of_below (zzb _ _).drew)) (HACL.out.tb.drew) hsz6).mono ?_
     rintro e w2 ⟨v2,L2,u2,rfl,ht2,hk2,hb2,hs2⟩
     have hkd:RKI rb v' wl v2 w2:=(show RKI rb v' wl v' wl.drew from .of_below (zzb _ _).drew).trans hk2
     have hac2:=HACL.out.step hkd ht2
     have hbw:Below w2.heap.size w2 (w2.alloc (.cells #[.int .i64 (u2.ad:Int)] 3)):=(zzb _ _).alloc (zzF _) _
     have hkw:RKI rb v2 w2 v2 (w2.alloc (.cells #[.int .i64 (u2.ad:Int)] 3)):=.of_below hbw
     have HA3:=zzA (hac2.below hbw)
     have HK2:=zzA (HKL.out.trans hkd)
     have HK3:=zzA (HK2.out.trans hkw)
     have HB2:=zzA hb2
     have HS2:=zzA hs2
     have HNX2:=zzA (hkd.nb HNXL.out)
     have HNY2:=zzA (hkd.nb HNYL.out)
     have HNX3:=zzA (hkw.nb HNX2.out)
     have HNY3:=zzA (hkw.nb HNY2.out)
     have HWS2:=zzA (zzU HWS.out hkd.kept.size)
     have yb:w2.cell? ⟨(w.heap.size+1),4,none⟩=some (.slice A us.length c):=HNY2.out.blk.cell 4
     have yc:(w2.alloc (.cells #[.int .i64 (u2.ad:Int)] 3)).cell? ⟨(w.heap.size+1),4,none⟩=some (.slice A us.length c):=HNY3.out.blk.cell 4
     clear ht2 hk2 hb2 hs2 hac2 hbw hkw hkd
     refine ⟨_,rfl,?_⟩
     refine hK.out _ _ ?_ (fun hHeld=>?_)
     ·exact ⟨HNX2.out.blk.cell 3,sub_cells HN.out (HK2.out) HUU.out 0 _ (by decide) rfl,sub_cells HN.out (HK2.out) HUU.out 1 _ (by decide) rfl,sub_cells HN.out (HK2.out) HUU.out 2 _ (by decide) rfl,sub_cells HN.out (HK2.out) HUU.out 3 _ (by decide) rfl,sub_cells HN.out (HK2.out) HUU.out 4 _ (by decide) rfl,sub_cells HN.out (HK2.out) HUU.out 5 _ (by decide) rfl,sub_cells HN.out (HK2.out) HUU.out 6 _ (by decide) rfl,sub_cells HN.out (HK2.out) HUU.out 7 _ (by decide) rfl,sub_cells HN.out (HK2.out) HUU.out 8 _ (by decide) rfl⟩
     clear hK K hHeld
     (try simp only [Act.put,zzB,zzD,zzC])
     refine wpAnyH_ready (rs:=[9]) (by kernel_rfl) (by simp) ?_
     refine AllReadyH.cons (o:={ dst:=some 38,op:=Op.buildSlice 26 1 #[(0,Operand.tmp 37)],type:=26,pos:= "ref.go:126",after:=#[{ on:=8,ground:=Ground.data }],guard:=none }) rfl (fun K hK=>?_) ?_
     ·skip
      go_simp
      refine hK.out _ _ ?_ (fun hHeld=>?_)
      ·exact ⟨HNX3.out.blk.cell 3,sub_cells HN.out (HK3.out) HUU.out 0 _ (by decide) rfl,sub_cells HN.out (HK3.out) HUU.out 1 _ (by decide) rfl,sub_cells HN.out (HK3.out) HUU.out 2 _ (by decide) rfl,sub_cells HN.out (HK3.out) HUU.out 3 _ (by decide) rfl,sub_cells HN.out (HK3.out) HUU.out 4 _ (by decide) rfl,sub_cells HN.out (HK3.out) HUU.out 5 _ (by decide) rfl,sub_cells HN.out (HK3.out) HUU.out 6 _ (by decide) rfl,sub_cells HN.out (HK3.out) HUU.out 7 _ (by decide) rfl,sub_cells HN.out (HK3.out) HUU.out 8 _ (by decide) rfl⟩
      clear hK K hHeld
      (try simp only [Act.put,zzB,zzD,zzC])
      refine wpAnyH_ready (rs:=[10]) (by kernel_rfl) (by simp) ?_
      refine AllReadyH.cons (o:={ dst:=some 39,op:=Op.call { callee:=Callee.builtin Builtin.append,args:=#[Operand.tmp 30,Operand.tmp 38],argTypes:=#[26,26] },type:=26,pos:= "ref.go:126",after:=#[{ on:=1,ground:=Ground.data },{ on:=9,ground:=Ground.data },{ on:=8,ground:=Ground.chain }],guard:=none }) rfl (fun K hK=>?_) ?_
      ·skip
       have ho:=HA3.out.own
       rw [zzP] at ho
       obtain ⟨i1,hi1,hz10,hz11,hz12⟩:=info_parts info_intR
       refine step_append_lies _ rfl (.tmp 30) (.tmp 38) 26 rfl 0 3 i1 (.int .i64 0) 1 8 Try.underlying26 hi1 hz10 hz11 hz12 rfl (by decide) (.slice A us.length c) us.length (numsR (us.map Un.ad)) rfl ho ⟨w2.heap.size,0,none⟩ 1 1 [.int .i64 (u2.ad:Int)] rfl rfl (new_atT w2 3 [.int .i64 (u2.ad:Int)]) (by simp [Value.oneCell']) (by decide) (by unfold maxLen;omega) (by omega) (zzZ _) _ rfl ?_
       intro g2 cap2 w6 hou2 hg2 hat2 hlt2
       have HA6:=zzA (HA3.out.grown (V':=.slice (some ⟨g2,0,none⟩) (us.length+1) cap2) (l':=(us++[u2]).map Un.ad) hg2 (by rw [zzP,zzG,zzT,numsR,zzT];exact hou2) (fun g hg=>by rw [show g2=g from by simpa [Value.ownBlock] using hg] at hat2;exact at_old (zzF _) hat2))
       have HK6:=zzA (HK3.out.far hg2 (fun g hg=>by have:=HFR.out g hg;omega))
       have HF6:=zzA (show ∀ g,(Value.slice (some ⟨g2,0,none⟩) (us.length+1) cap2).ownBlock=some g→w.heap.size+2≤g from fun g hg=>by rw [show g2=g from by simpa [Value.ownBlock] using hg] at hat2;rcases hat2 with h | h;exact HFR.out g h;rw [h];have:=HWS2.out;simp;omega)
       have HNX6:=zzA (HNX3.out.grown hg2 (fun e=>by have:=HFR.out _ e;omega))
       have HNY6:=zzA (HNY3.out.grown hg2 (fun e=>by have:=HFR.out _ e;omega))
       have HWS6:=zzA (zzU HWS2.out (zzU (show w2.heap.size≤(w2.alloc (.cells #[.int .i64 (u2.ad:Int)] 3)).heap.size from by simp) hg2.size))
       have yd:w6.cell? ⟨(w.heap.size+1),4,none⟩=some (.slice A us.length c):=HNY6.out.blk.cell 4
       have ye:=HNY6.out.blk.frozen 4
       have yf:=HNY6.out.blk.lt
       clear hou2 hg2 hat2 ho
       refine hK.out _ _ ?_ (fun hHeld=>?_)
       ·exact ⟨HNX6.out.blk.cell 3,sub_cells HN.out (HK6.out) HUU.out 0 _ (by decide) rfl,sub_cells HN.out (HK6.out) HUU.out 1 _ (by decide) rfl,sub_cells HN.out (HK6.out) HUU.out 2 _ (by decide) rfl,sub_cells HN.out (HK6.out) HUU.out 3 _ (by decide) rfl,sub_cells HN.out (HK6.out) HUU.out 4 _ (by decide) rfl,sub_cells HN.out (HK6.out) HUU.out 5 _ (by decide) rfl,sub_cells HN.out (HK6.out) HUU.out 6 _ (by decide) rfl,sub_cells HN.out (HK6.out) HUU.out 7 _ (by decide) rfl,sub_cells HN.out (HK6.out) HUU.out 8 _ (by decide) rfl⟩
       clear hK K hHeld
       (try simp only [Act.put,zzB,zzD,zzC])
       refine wpAnyH_ready (rs:=[11]) (by kernel_rfl) (by simp) ?_
       refine AllReadyH.cons (o:={ dst:=some 40,op:=Op.fieldAddr 87 (Operand.tmp 5) 4,type:=0,pos:= "ref.go:126",after:=#[{ on:=0,ground:=Ground.phase },{ on:=1,ground:=Ground.phase },{ on:=2,ground:=Ground.phase },{ on:=3,ground:=Ground.phase },{ on:=4,ground:=Ground.phase },{ on:=5,ground:=Ground.phase },{ on:=6,ground:=Ground.phase },{ on:=7,ground:=Ground.phase },{ on:=8,ground:=Ground.phase },{ on:=9,ground:=Ground.phase },{ on:=10,ground:=Ground.phase }],guard:=none }) rfl (fun K hK=>?_) ?_
       ·skip
        go_simp
        refine hK.out _ _ ?_ (fun hHeld=>?_)
        ·exact ⟨HNX6.out.blk.cell 3,sub_cells HN.out (HK6.out) HUU.out 0 _ (by decide) rfl,sub_cells HN.out (HK6.out) HUU.out 1 _ (by decide) rfl,sub_cells HN.out (HK6.out) HUU.out 2 _ (by decide) rfl,sub_cells HN.out (HK6.out) HUU.out 3 _ (by decide) rfl,sub_cells HN.out (HK6.out) HUU.out 4 _ (by decide) rfl,sub_cells HN.out (HK6.out) HUU.out 5 _ (by decide) rfl,sub_cells HN.out (HK6.out) HUU.out 6 _ (by decide) rfl,sub_cells HN.out (HK6.out) HUU.out 7 _ (by decide) rfl,sub_cells HN.out (HK6.out) HUU.out 8 _ (by decide) rfl⟩
        clear hK K hHeld
        (try simp only [Act.put,zzB,zzD,zzC])
        refine wpAnyH_ready (rs:=[12]) (by kernel_rfl) (by simp) ?_
        refine AllReadyH.cons (o:={ dst:=none,op:=Op.store 26 (Operand.tmp 40) (Operand.tmp 39),type:=0,pos:= "ref.go:126",after:=#[{ on:=11,ground:=Ground.data },{ on:=10,ground:=Ground.data },{ on:=10,ground:=Ground.chain },{ on:=0,ground:=Ground.phase },{ on:=1,ground:=Ground.phase },{ on:=2,ground:=Ground.phase },{ on:=3,ground:=Ground.phase },{ on:=4,ground:=Ground.phase },{ on:=5,ground:=Ground.phase },{ on:=6,ground:=Ground.phase },{ on:=7,ground:=Ground.phase },{ on:=8,ground:=Ground.phase },{ on:=9,ground:=Ground.phase },{ on:=10,ground:=Ground.phase }],guard:=none }) rfl (fun K hK=>?_) ?_
        ·skip
         go_simp
         refine hK.out _ _ ?_ (fun hHeld=>?_)
         ·exact ⟨(HNX6.out.far (x:=.slice (some ⟨g2,0,none⟩) (us.length+1) cap2) (q:=4) (b':=w.heap.size+1) (by omega)).blk.cell 3,sub_cells HN.out (HK6.out.store (b:=w.heap.size+1) (q:=4) (x:=.slice (some ⟨g2,0,none⟩) (us.length+1) cap2) (by omega)) HUU.out 0 _ (by decide) rfl,sub_cells HN.out (HK6.out.store (b:=w.heap.size+1) (q:=4) (x:=.slice (some ⟨g2,0,none⟩) (us.length+1) cap2) (by omega)) HUU.out 1 _ (by decide) rfl,sub_cells HN.out (HK6.out.store (b:=w.heap.size+1) (q:=4) (x:=.slice (some ⟨g2,0,none⟩) (us.length+1) cap2) (by omega)) HUU.out 2 _ (by decide) rfl,sub_cells HN.out (HK6.out.store (b:=w.heap.size+1) (q:=4) (x:=.slice (some ⟨g2,0,none⟩) (us.length+1) cap2) (by omega)) HUU.out 3 _ (by decide) rfl,sub_cells HN.out (HK6.out.store (b:=w.heap.size+1) (q:=4) (x:=.slice (some ⟨g2,0,none⟩) (us.length+1) cap2) (by omega)) HUU.out 4 _ (by decide) rfl,sub_cells HN.out (HK6.out.store (b:=w.heap.size+1) (q:=4) (x:=.slice (some ⟨g2,0,none⟩) (us.length+1) cap2) (by omega)) HUU.out 5 _ (by decide) rfl,sub_cells HN.out (HK6.out.store (b:=w.heap.size+1) (q:=4) (x:=.slice (some ⟨g2,0,none⟩) (us.length+1) cap2) (by omega)) HUU.out 6 _ (by decide) rfl,sub_cells HN.out (HK6.out.store (b:=w.heap.size+1) (q:=4) (x:=.slice (some ⟨g2,0,none⟩) (us.length+1) cap2) (by omega)) HUU.out 7 _ (by decide) rfl,sub_cells HN.out (HK6.out.store (b:=w.heap.size+1) (q:=4) (x:=.slice (some ⟨g2,0,none⟩) (us.length+1) cap2) (by omega)) HUU.out 8 _ (by decide) rfl⟩
         clear hK K hHeld
         (try simp only [Act.put,zzB,zzD,zzC])
         refine wpAnyH_done (by kernel_rfl) ?_ _
         go_wp2_with fail
         refine ⟨⟨i+1,some ⟨g2,0,none⟩,cap2,us++[u2],v2,L2,by omega,by go_num,by rw [zzG];exact HA6.out.store (x:=(.slice (some ⟨g2,0,none⟩) (us.length+1) cap2)) (q:=4) HNY6.out.ne HNY6.out.sep (fun e=>by have:=HF6.out _ e;omega),HK6.out.store (by omega),HBU.out.snoc HB2.out,?_,by rw [zzG];exact congrArg (·+1) HUL.out,by rw [zzG];exact HF6.out,HNX6.out.far (by omega),by rw [zzG];exact HNY6.out.store (x:=(.slice (some ⟨g2,0,none⟩) (us.length+1) cap2)) (q:=4),by have:=HWS6.out;simpa [World.setCell] using this⟩,by simp [intOf];omega⟩
         rw [zzT,HSHL.out,zzS,List.map_nil,HS2.out,List.take_add_one,HSU.out];rfl
        exact AllReadyH.nil
       exact AllReadyH.nil
      exact AllReadyH.nil
     exact AllReadyH.nil
    exact AllReadyH.nil
   refine AllReadyH.cons (o:={ dst:=some 37,op:=Op.call { callee:=Callee.value (Operand.func 25),args:=#[Operand.tmp 31,Operand.tmp 36],argTypes:=#[65,25] },type:=3,pos:= "ref.go:126",after:=#[{ on:=2,ground:=Ground.data },{ on:=7,ground:=Ground.data }],guard:=none }) rfl (fun K hK=>?_) ?_
   ·skip
    refine step_call6 rfl 25 (.tmp 31) (.tmp 36) 65 25 rfl _ _ rfl rfl (enters6 Try.func25 (by kernel_rfl) (by kernel_rfl)) ?_
    refine (HU.out _ rb v' L' wl.drew (HRT.out.rki (.of_below (zzb _ _).drew)) (HACL.out.tb.drew) hsz6).mono ?_
    rintro e w2 ⟨v2,L2,u2,rfl,ht2,hk2,hb2,hs2⟩
    have hkd:RKI rb v' wl v2 w2:=(show RKI rb v' wl v' wl.drew from .of_below (zzb _ _).drew).trans hk2
    have hac2:=HACL.out.step hkd ht2
    have hbw:Below w2.heap.size w2 (w2.alloc (.cells #[.int .i64 (u2.ad:Int)] 3)):=(zzb _ _).alloc (zzF _) _
    have hkw:RKI rb v2 w2 v2 (w2.alloc (.cells #[.int .i64 (u2.ad:Int)] 3)):=.of_below hbw
    have HA3:=zzA (hac2.below hbw)
    have HK2:=zzA (HKL.out.trans hkd)
    have HK3:=zzA (HK2.out.trans hkw)
    have HB2:=zzA hb2
    have HS2:=zzA hs2
    have HNX2:=zzA (hkd.nb HNXL.out)
    have HNY2:=zzA (hkd.nb HNYL.out)
    have HNX3:=zzA (hkw.nb HNX2.out)
    have HNY3:=zzA (hkw.nb HNY2.out)
    have HWS2:=zzA (zzU HWS.out hkd.kept.size)
    have yb:w2.cell? ⟨(w.heap.size+1),4,none⟩=some (.slice A us.length c):=HNY2.out.blk.cell 4
    have yc:(w2.alloc (.cells #[.int .i64 (u2.ad:Int)] 3)).cell? ⟨(w.heap.size+1),4,none⟩=some (.slice A us.length c):=HNY3.out.blk.cell 4
    clear ht2 hk2 hb2 hs2 hac2 hbw hkw hkd
    refine ⟨_,rfl,?_⟩
    refine hK.out _ _ ?_ (fun hHeld=>?_)
    ·exact ⟨HNX2.out.blk.cell 3,sub_cells HN.out (HK2.out) HUU.out 0 _ (by decide) rfl,sub_cells HN.out (HK2.out) HUU.out 1 _ (by decide) rfl,sub_cells HN.out (HK2.out) HUU.out 2 _ (by decide) rfl,sub_cells HN.out (HK2.out) HUU.out 3 _ (by decide) rfl,sub_cells HN.out (HK2.out) HUU.out 4 _ (by decide) rfl,sub_cells HN.out (HK2.out) HUU.out 5 _ (by decide) rfl,sub_cells HN.out (HK2.out) HUU.out 6 _ (by decide) rfl,sub_cells HN.out (HK2.out) HUU.out 7 _ (by decide) rfl,sub_cells HN.out (HK2.out) HUU.out 8 _ (by decide) rfl⟩
    clear hK K hHeld
    (try simp only [Act.put,zzB,zzD,zzC])
    refine wpAnyH_ready (rs:=[1,9]) (by kernel_rfl) (by simp) ?_
    refine AllReadyH.cons (o:={ dst:=some 30,op:=Op.load 26 (Operand.tmp 29),type:=26,pos:= "ref.go:126",after:=#[{ on:=0,ground:=Ground.data }],guard:=none }) rfl (fun K hK=>?_) ?_
    ·skip
     go_simp
     refine hK.out _ _ ?_ (fun hHeld=>?_)
     ·exact ⟨HNX2.out.blk.cell 3,sub_cells HN.out (HK2.out) HUU.out 0 _ (by decide) rfl,sub_cells HN.out (HK2.out) HUU.out 1 _ (by decide) rfl,sub_cells HN.out (HK2.out) HUU.out 2 _ (by decide) rfl,sub_cells HN.out (HK2.out) HUU.out 3 _ (by decide) rfl,sub_cells HN.out (HK2.out) HUU.out 4 _ (by decide) rfl,sub_cells HN.out (HK2.out) HUU.out 5 _ (by decide) rfl,sub_cells HN.out (HK2.out) HUU.out 6 _ (by decide) rfl,sub_cells HN.out (HK2.out) HUU.out 7 _ (by decide) rfl,sub_cells HN.out (HK2.out) HUU.out 8 _ (by decide) rfl⟩
     clear hK K hHeld
     (try simp only [Act.put,zzB,zzD,zzC])
     refine wpAnyH_ready (rs:=[9]) (by kernel_rfl) (by simp) ?_
     refine AllReadyH.cons (o:={ dst:=some 38,op:=Op.buildSlice 26 1 #[(0,Operand.tmp 37)],type:=26,pos:= "ref.go:126",after:=#[{ on:=8,ground:=Ground.data }],guard:=none }) rfl (fun K hK=>?_) ?_
     ·skip
      go_simp
      refine hK.out _ _ ?_ (fun hHeld=>?_)
      ·exact ⟨HNX3.out.blk.cell 3,sub_cells HN.out (HK3.out) HUU.out 0 _ (by decide) rfl,sub_cells HN.out (HK3.out) HUU.out 1 _ (by decide) rfl,sub_cells HN.out (HK3.out) HUU.out 2 _ (by decide) rfl,sub_cells HN.out (HK3.out) HUU.out 3 _ (by decide) rfl,sub_cells HN.out (HK3.out) HUU.out 4 _ (by decide) rfl,sub_cells HN.out (HK3.out) HUU.out 5 _ (by decide) rfl,sub_cells HN.out (HK3.out) HUU.out 6 _ (by decide) rfl,sub_cells HN.out (HK3.out) HUU.out 7 _ (by decide) rfl,sub_cells HN.out (HK3.out) HUU.out 8 _ (by decide) rfl⟩
      clear hK K hHeld
      (try simp only [Act.put,zzB,zzD,zzC])
      refine wpAnyH_ready (rs:=[10]) (by kernel_rfl) (by simp) ?_
      refine AllReadyH.cons (o:={ dst:=some 39,op:=Op.call { callee:=Callee.builtin Builtin.append,args:=#[Operand.tmp 30,Operand.tmp 38],argTypes:=#[26,26] },type:=26,pos:= "ref.go:126",after:=#[{ on:=1,ground:=Ground.data },{ on:=9,ground:=Ground.data },{ on:=8,ground:=Ground.chain }],guard:=none }) rfl (fun K hK=>?_) ?_
      ·skip
       have ho:=HA3.out.own
       rw [zzP] at ho
       obtain ⟨i1,hi1,hz10,hz11,hz12⟩:=info_parts info_intR
       refine step_append_lies _ rfl (.tmp 30) (.tmp 38) 26 rfl 0 3 i1 (.int .i64 0) 1 8 Try.underlying26 hi1 hz10 hz11 hz12 rfl (by decide) (.slice A us.length c) us.length (numsR (us.map Un.ad)) rfl ho ⟨w2.heap.size,0,none⟩ 1 1 [.int .i64 (u2.ad:Int)] rfl rfl (new_atT w2 3 [.int .i64 (u2.ad:Int)]) (by simp [Value.oneCell']) (by decide) (by unfold maxLen;omega) (by omega) (zzZ _) _ rfl ?_
       intro g2 cap2 w6 hou2 hg2 hat2 hlt2
       have HA6:=zzA (HA3.out.grown (V':=.slice (some ⟨g2,0,none⟩) (us.length+1) cap2) (l':=(us++[u2]).map Un.ad) hg2 (by rw [zzP,zzG,zzT,numsR,zzT];exact hou2) (fun g hg=>by rw [show g2=g from by simpa [Value.ownBlock] using hg] at hat2;exact at_old (zzF _) hat2))
       have HK6:=zzA (HK3.out.far hg2 (fun g hg=>by have:=HFR.out g hg;omega))
       have HF6:=zzA (show ∀ g,(Value.slice (some ⟨g2,0,none⟩) (us.length+1) cap2).ownBlock=some g→w.heap.size+2≤g from fun g hg=>by rw [show g2=g from by simpa [Value.ownBlock] using hg] at hat2;rcases hat2 with h | h;exact HFR.out g h;rw [h];have:=HWS2.out;simp;omega)
       have HNX6:=zzA (HNX3.out.grown hg2 (fun e=>by have:=HFR.out _ e;omega))
       have HNY6:=zzA (HNY3.out.grown hg2 (fun e=>by have:=HFR.out _ e;omega))
       have HWS6:=zzA (zzU HWS2.out (zzU (show w2.heap.size≤(w2.alloc (.cells #[.int .i64 (u2.ad:Int)] 3)).heap.size from by simp) hg2.size))
       have yd:w6.cell? ⟨(w.heap.size+1),4,none⟩=some (.slice A us.length c):=HNY6.out.blk.cell 4
       have ye:=HNY6.out.blk.frozen 4
       have yf:=HNY6.out.blk.lt
       clear hou2 hg2 hat2 ho
       refine hK.out _ _ ?_ (fun hHeld=>?_)
       ·exact ⟨HNX6.out.blk.cell 3,sub_cells HN.out (HK6.out) HUU.out 0 _ (by decide) rfl,sub_cells HN.out (HK6.out) HUU.out 1 _ (by decide) rfl,sub_cells HN.out (HK6.out) HUU.out 2 _ (by decide) rfl,sub_cells HN.out (HK6.out) HUU.out 3 _ (by decide) rfl,sub_cells HN.out (HK6.out) HUU.out 4 _ (by decide) rfl,sub_cells HN.out (HK6.out) HUU.out 5 _ (by decide) rfl,sub_cells HN.out (HK6.out) HUU.out 6 _ (by decide) rfl,sub_cells HN.out (HK6.out) HUU.out 7 _ (by decide) rfl,sub_cells HN.out (HK6.out) HUU.out 8 _ (by decide) rfl⟩
       clear hK K hHeld
       (try simp only [Act.put,zzB,zzD,zzC])
       refine wpAnyH_ready (rs:=[11]) (by kernel_rfl) (by simp) ?_
       refine AllReadyH.cons (o:={ dst:=some 40,op:=Op.fieldAddr 87 (Operand.tmp 5) 4,type:=0,pos:= "ref.go:126",after:=#[{ on:=0,ground:=Ground.phase },{ on:=1,ground:=Ground.phase },{ on:=2,ground:=Ground.phase },{ on:=3,ground:=Ground.phase },{ on:=4,ground:=Ground.phase },{ on:=5,ground:=Ground.phase },{ on:=6,ground:=Ground.phase },{ on:=7,ground:=Ground.phase },{ on:=8,ground:=Ground.phase },{ on:=9,ground:=Ground.phase },{ on:=10,ground:=Ground.phase }],guard:=none }) rfl (fun K hK=>?_) ?_
       ·skip
        go_simp
        refine hK.out _ _ ?_ (fun hHeld=>?_)
        ·exact ⟨HNX6.out.blk.cell 3,sub_cells HN.out (HK6.out) HUU.out 0 _ (by decide) rfl,sub_cells HN.out (HK6.out) HUU.out 1 _ (by decide) rfl,sub_cells HN.out (HK6.out) HUU.out 2 _ (by decide) rfl,sub_cells HN.out (HK6.out) HUU.out 3 _ (by decide) rfl,sub_cells HN.out (HK6.out) HUU.out 4 _ (by decide) rfl,sub_cells HN.out (HK6.out) HUU.out 5 _ (by decide) rfl,sub_cells HN.out (HK6.out) HUU.out 6 _ (by decide) rfl,sub_cells HN.out (HK6.out) HUU.out 7 _ (by decide) rfl,sub_cells HN.out (HK6.out) HUU.out 8 _ (by decide) rfl⟩
        clear hK K hHeld
        (try simp only [Act.put,zzB,zzD,zzC])
        refine wpAnyH_ready (rs:=[12]) (by kernel_rfl) (by simp) ?_
        refine AllReadyH.cons (o:={ dst:=none,op:=Op.store 26 (Operand.tmp 40) (Operand.tmp 39),type:=0,pos:= "ref.go:126",after:=#[{ on:=11,ground:=Ground.data },{ on:=10,ground:=Ground.data },{ on:=10,ground:=Ground.chain },{ on:=0,ground:=Ground.phase },{ on:=1,ground:=Ground.phase },{ on:=2,ground:=Ground.phase },{ on:=3,ground:=Ground.phase },{ on:=4,ground:=Ground.phase },{ on:=5,ground:=Ground.phase },{ on:=6,ground:=Ground.phase },{ on:=7,ground:=Ground.phase },{ on:=8,ground:=Ground.phase },{ on:=9,ground:=Ground.phase },{ on:=10,ground:=Ground.phase }],guard:=none }) rfl (fun K hK=>?_) ?_
        ·skip
         go_simp
         refine hK.out _ _ ?_ (fun hHeld=>?_)
         ·exact ⟨(HNX6.out.far (x:=.slice (some ⟨g2,0,none⟩) (us.length+1) cap2) (q:=4) (b':=w.heap.size+1) (by omega)).blk.cell 3,sub_cells HN.out (HK6.out.store (b:=w.heap.size+1) (q:=4) (x:=.slice (some ⟨g2,0,none⟩) (us.length+1) cap2) (by omega)) HUU.out 0 _ (by decide) rfl,sub_cells HN.out (HK6.out.store (b:=w.heap.size+1) (q:=4) (x:=.slice (some ⟨g2,0,none⟩) (us.length+1) cap2) (by omega)) HUU.out 1 _ (by decide) rfl,sub_cells HN.out (HK6.out.store (b:=w.heap.size+1) (q:=4) (x:=.slice (some ⟨g2,0,none⟩) (us.length+1) cap2) (by omega)) HUU.out 2 _ (by decide) rfl,sub_cells HN.out (HK6.out.store (b:=w.heap.size+1) (q:=4) (x:=.slice (some ⟨g2,0,none⟩) (us.length+1) cap2) (by omega)) HUU.out 3 _ (by decide) rfl,sub_cells HN.out (HK6.out.store (b:=w.heap.size+1) (q:=4) (x:=.slice (some ⟨g2,0,none⟩) (us.length+1) cap2) (by omega)) HUU.out 4 _ (by decide) rfl,sub_cells HN.out (HK6.out.store (b:=w.heap.size+1) (q:=4) (x:=.slice (some ⟨g2,0,none⟩) (us.length+1) cap2) (by omega)) HUU.out 5 _ (by decide) rfl,sub_cells HN.out (HK6.out.store (b:=w.heap.size+1) (q:=4) (x:=.slice (some ⟨g2,0,none⟩) (us.length+1) cap2) (by omega)) HUU.out 6 _ (by decide) rfl,sub_cells HN.out (HK6.out.store (b:=w.heap.size+1) (q:=4) (x:=.slice (some ⟨g2,0,none⟩) (us.length+1) cap2) (by omega)) HUU.out 7 _ (by decide) rfl,sub_cells HN.out (HK6.out.store (b:=w.heap.size+1) (q:=4) (x:=.slice (some ⟨g2,0,none⟩) (us.length+1) cap2) (by omega)) HUU.out 8 _ (by decide) rfl⟩
         clear hK K hHeld
         (try simp only [Act.put,zzB,zzD,zzC])
         refine wpAnyH_done (by kernel_rfl) ?_ _
         go_wp2_with fail
         refine ⟨⟨i+1,some ⟨g2,0,none⟩,cap2,us++[u2],v2,L2,by omega,by go_num,by rw [zzG];exact HA6.out.store (x:=(.slice (some ⟨g2,0,none⟩) (us.length+1) cap2)) (q:=4) HNY6.out.ne HNY6.out.sep (fun e=>by have:=HF6.out _ e;omega),HK6.out.store (by omega),HBU.out.snoc HB2.out,?_,by rw [zzG];exact congrArg (·+1) HUL.out,by rw [zzG];exact HF6.out,HNX6.out.far (by omega),by rw [zzG];exact HNY6.out.store (x:=(.slice (some ⟨g2,0,none⟩) (us.length+1) cap2)) (q:=4),by have:=HWS6.out;simpa [World.setCell] using this⟩,by simp [intOf];omega⟩
         rw [zzT,HSHL.out,zzS,List.map_nil,HS2.out,List.take_add_one,HSU.out];rfl
        exact AllReadyH.nil
       exact AllReadyH.nil
      exact AllReadyH.nil
     exact AllReadyH.nil
    refine AllReadyH.cons (o:={ dst:=some 38,op:=Op.buildSlice 26 1 #[(0,Operand.tmp 37)],type:=26,pos:= "ref.go:126",after:=#[{ on:=8,ground:=Ground.data }],guard:=none }) rfl (fun K hK=>?_) ?_
    ·skip
     go_simp
     refine hK.out _ _ ?_ (fun hHeld=>?_)
     ·exact ⟨HNX3.out.blk.cell 3,sub_cells HN.out (HK3.out) HUU.out 0 _ (by decide) rfl,sub_cells HN.out (HK3.out) HUU.out 1 _ (by decide) rfl,sub_cells HN.out (HK3.out) HUU.out 2 _ (by decide) rfl,sub_cells HN.out (HK3.out) HUU.out 3 _ (by decide) rfl,sub_cells HN.out (HK3.out) HUU.out 4 _ (by decide) rfl,sub_cells HN.out (HK3.out) HUU.out 5 _ (by decide) rfl,sub_cells HN.out (HK3.out) HUU.out 6 _ (by decide) rfl,sub_cells HN.out (HK3.out) HUU.out 7 _ (by decide) rfl,sub_cells HN.out (HK3.out) HUU.out 8 _ (by decide) rfl⟩
     clear hK K hHeld
     (try simp only [Act.put,zzB,zzD,zzC])
     refine wpAnyH_ready (rs:=[1]) (by kernel_rfl) (by simp) ?_
     refine AllReadyH.cons (o:={ dst:=some 30,op:=Op.load 26 (Operand.tmp 29),type:=26,pos:= "ref.go:126",after:=#[{ on:=0,ground:=Ground.data }],guard:=none }) rfl (fun K hK=>?_) ?_
     ·skip
      go_simp
      refine hK.out _ _ ?_ (fun hHeld=>?_)
      ·exact ⟨HNX3.out.blk.cell 3,sub_cells HN.out (HK3.out) HUU.out 0 _ (by decide) rfl,sub_cells HN.out (HK3.out) HUU.out 1 _ (by decide) rfl,sub_cells HN.out (HK3.out) HUU.out 2 _ (by decide) rfl,sub_cells HN.out (HK3.out) HUU.out 3 _ (by decide) rfl,sub_cells HN.out (HK3.out) HUU.out 4 _ (by decide) rfl,sub_cells HN.out (HK3.out) HUU.out 5 _ (by decide) rfl,sub_cells HN.out (HK3.out) HUU.out 6 _ (by decide) rfl,sub_cells HN.out (HK3.out) HUU.out 7 _ (by decide) rfl,sub_cells HN.out (HK3.out) HUU.out 8 _ (by decide) rfl⟩
      clear hK K hHeld
      (try simp only [Act.put,zzB,zzD,zzC])
      refine wpAnyH_ready (rs:=[10]) (by kernel_rfl) (by simp) ?_
      refine AllReadyH.cons (o:={ dst:=some 39,op:=Op.call { callee:=Callee.builtin Builtin.append,args:=#[Operand.tmp 30,Operand.tmp 38],argTypes:=#[26,26] },type:=26,pos:= "ref.go:126",after:=#[{ on:=1,ground:=Ground.data },{ on:=9,ground:=Ground.data },{ on:=8,ground:=Ground.chain }],guard:=none }) rfl (fun K hK=>?_) ?_
      ·skip
       have ho:=HA3.out.own
       rw [zzP] at ho
       obtain ⟨i1,hi1,hz10,hz11,hz12⟩:=info_parts info_intR
       refine step_append_lies _ rfl (.tmp 30) (.tmp 38) 26 rfl 0 3 i1 (.int .i64 0) 1 8 Try.underlying26 hi1 hz10 hz11 hz12 rfl (by decide) (.slice A us.length c) us.length (numsR (us.map Un.ad)) rfl ho ⟨w2.heap.size,0,none⟩ 1 1 [.int .i64 (u2.ad:Int)] rfl rfl (new_atT w2 3 [.int .i64 (u2.ad:Int)]) (by simp [Value.oneCell']) (by decide) (by unfold maxLen;omega) (by omega) (zzZ _) _ rfl ?_
       intro g2 cap2 w6 hou2 hg2 hat2 hlt2
       have HA6:=zzA (HA3.out.grown (V':=.slice (some ⟨g2,0,none⟩) (us.length+1) cap2) (l':=(us++[u2]).map Un.ad) hg2 (by rw [zzP,zzG,zzT,numsR,zzT];exact hou2) (fun g hg=>by rw [show g2=g from by simpa [Value.ownBlock] using hg] at hat2;exact at_old (zzF _) hat2))
       have HK6:=zzA (HK3.out.far hg2 (fun g hg=>by have:=HFR.out g hg;omega))
       have HF6:=zzA (show ∀ g,(Value.slice (some ⟨g2,0,none⟩) (us.length+1) cap2).ownBlock=some g→w.heap.size+2≤g from fun g hg=>by rw [show g2=g from by simpa [Value.ownBlock] using hg] at hat2;rcases hat2 with h | h;exact HFR.out g h;rw [h];have:=HWS2.out;simp;omega)
       have HNX6:=zzA (HNX3.out.grown hg2 (fun e=>by have:=HFR.out _ e;omega))
       have HNY6:=zzA (HNY3.out.grown hg2 (fun e=>by have:=HFR.out _ e;omega))
       have HWS6:=zzA (zzU HWS2.out (zzU (show w2.heap.size≤(w2.alloc (.cells #[.int .i64 (u2.ad:Int)] 3)).heap.size from by simp) hg2.size))
       have yd:w6.cell? ⟨(w.heap.size+1),4,none⟩=some (.slice A us.length c):=HNY6.out.blk.cell 4
       have ye:=HNY6.out.blk.frozen 4
       have yf:=HNY6.out.blk.lt
       clear hou2 hg2 hat2 ho
       refine hK.out _ _ ?_ (fun hHeld=>?_)
       ·exact ⟨HNX6.out.blk.cell 3,sub_cells HN.out (HK6.out) HUU.out 0 _ (by decide) rfl,sub_cells HN.out (HK6.out) HUU.out 1 _ (by decide) rfl,sub_cells HN.out (HK6.out) HUU.out 2 _ (by decide) rfl,sub_cells HN.out (HK6.out) HUU.out 3 _ (by decide) rfl,sub_cells HN.out (HK6.out) HUU.out 4 _ (by decide) rfl,sub_cells HN.out (HK6.out) HUU.out 5 _ (by decide) rfl,sub_cells HN.out (HK6.out) HUU.out 6 _ (by decide) rfl,sub_cells HN.out (HK6.out) HUU.out 7 _ (by decide) rfl,sub_cells HN.out (HK6.out) HUU.out 8 _ (by decide) rfl⟩
       clear hK K hHeld
       (try simp only [Act.put,zzB,zzD,zzC])
       refine wpAnyH_ready (rs:=[11]) (by kernel_rfl) (by simp) ?_
       refine AllReadyH.cons (o:={ dst:=some 40,op:=Op.fieldAddr 87 (Operand.tmp 5) 4,type:=0,pos:= "ref.go:126",after:=#[{ on:=0,ground:=Ground.phase },{ on:=1,ground:=Ground.phase },{ on:=2,ground:=Ground.phase },{ on:=3,ground:=Ground.phase },{ on:=4,ground:=Ground.phase },{ on:=5,ground:=Ground.phase },{ on:=6,ground:=Ground.phase },{ on:=7,ground:=Ground.phase },{ on:=8,ground:=Ground.phase },{ on:=9,ground:=Ground.phase },{ on:=10,ground:=Ground.phase }],guard:=none }) rfl (fun K hK=>?_) ?_
       ·skip
        go_simp
        refine hK.out _ _ ?_ (fun hHeld=>?_)
        ·exact ⟨HNX6.out.blk.cell 3,sub_cells HN.out (HK6.out) HUU.out 0 _ (by decide) rfl,sub_cells HN.out (HK6.out) HUU.out 1 _ (by decide) rfl,sub_cells HN.out (HK6.out) HUU.out 2 _ (by decide) rfl,sub_cells HN.out (HK6.out) HUU.out 3 _ (by decide) rfl,sub_cells HN.out (HK6.out) HUU.out 4 _ (by decide) rfl,sub_cells HN.out (HK6.out) HUU.out 5 _ (by decide) rfl,sub_cells HN.out (HK6.out) HUU.out 6 _ (by decide) rfl,sub_cells HN.out (HK6.out) HUU.out 7 _ (by decide) rfl,sub_cells HN.out (HK6.out) HUU.out 8 _ (by decide) rfl⟩
        clear hK K hHeld
        (try simp only [Act.put,zzB,zzD,zzC])
        refine wpAnyH_ready (rs:=[12]) (by kernel_rfl) (by simp) ?_
        refine AllReadyH.cons (o:={ dst:=none,op:=Op.store 26 (Operand.tmp 40) (Operand.tmp 39),type:=0,pos:= "ref.go:126",after:=#[{ on:=11,ground:=Ground.data },{ on:=10,ground:=Ground.data },{ on:=10,ground:=Ground.chain },{ on:=0,ground:=Ground.phase },{ on:=1,ground:=Ground.phase },{ on:=2,ground:=Ground.phase },{ on:=3,ground:=Ground.phase },{ on:=4,ground:=Ground.phase },{ on:=5,ground:=Ground.phase },{ on:=6,ground:=Ground.phase },{ on:=7,ground:=Ground.phase },{ on:=8,ground:=Ground.phase },{ on:=9,ground:=Ground.phase },{ on:=10,ground:=Ground.phase }],guard:=none }) rfl (fun K hK=>?_) ?_
        ·skip
         go_simp
         refine hK.out _ _ ?_ (fun hHeld=>?_)
         ·exact ⟨(HNX6.out.far (x:=.slice (some ⟨g2,0,none⟩) (us.length+1) cap2) (q:=4) (b':=w.heap.size+1) (by omega)).blk.cell 3,sub_cells HN.out (HK6.out.store (b:=w.heap.size+1) (q:=4) (x:=.slice (some ⟨g2,0,none⟩) (us.length+1) cap2) (by omega)) HUU.out 0 _ (by decide) rfl,sub_cells HN.out (HK6.out.store (b:=w.heap.size+1) (q:=4) (x:=.slice (some ⟨g2,0,none⟩) (us.length+1) cap2) (by omega)) HUU.out 1 _ (by decide) rfl,sub_cells HN.out (HK6.out.store (b:=w.heap.size+1) (q:=4) (x:=.slice (some ⟨g2,0,none⟩) (us.length+1) cap2) (by omega)) HUU.out 2 _ (by decide) rfl,sub_cells HN.out (HK6.out.store (b:=w.heap.size+1) (q:=4) (x:=.slice (some ⟨g2,0,none⟩) (us.length+1) cap2) (by omega)) HUU.out 3 _ (by decide) rfl,sub_cells HN.out (HK6.out.store (b:=w.heap.size+1) (q:=4) (x:=.slice (some ⟨g2,0,none⟩) (us.length+1) cap2) (by omega)) HUU.out 4 _ (by decide) rfl,sub_cells HN.out (HK6.out.store (b:=w.heap.size+1) (q:=4) (x:=.slice (some ⟨g2,0,none⟩) (us.length+1) cap2) (by omega)) HUU.out 5 _ (by decide) rfl,sub_cells HN.out (HK6.out.store (b:=w.heap.size+1) (q:=4) (x:=.slice (some ⟨g2,0,none⟩) (us.length+1) cap2) (by omega)) HUU.out 6 _ (by decide) rfl,sub_cells HN.out (HK6.out.store (b:=w.heap.size+1) (q:=4) (x:=.slice (some ⟨g2,0,none⟩) (us.length+1) cap2) (by omega)) HUU.out 7 _ (by decide) rfl,sub_cells HN.out (HK6.out.store (b:=w.heap.size+1) (q:=4) (x:=.slice (some ⟨g2,0,none⟩) (us.length+1) cap2) (by omega)) HUU.out 8 _ (by decide) rfl⟩
         clear hK K hHeld
         (try simp only [Act.put,zzB,zzD,zzC])
         refine wpAnyH_done (by kernel_rfl) ?_ _
         go_wp2_with fail
         refine ⟨⟨i+1,some ⟨g2,0,none⟩,cap2,us++[u2],v2,L2,by omega,by go_num,by rw [zzG];exact HA6.out.store (x:=(.slice (some ⟨g2,0,none⟩) (us.length+1) cap2)) (q:=4) HNY6.out.ne HNY6.out.sep (fun e=>by have:=HF6.out _ e;omega),HK6.out.store (by omega),HBU.out.snoc HB2.out,?_,by rw [zzG];exact congrArg (·+1) HUL.out,by rw [zzG];exact HF6.out,HNX6.out.far (by omega),by rw [zzG];exact HNY6.out.store (x:=(.slice (some ⟨g2,0,none⟩) (us.length+1) cap2)) (q:=4),by have:=HWS6.out;simpa [World.setCell] using this⟩,by simp [intOf];omega⟩
         rw [zzT,HSHL.out,zzS,List.map_nil,HS2.out,List.take_add_one,HSU.out];rfl
        exact AllReadyH.nil
       exact AllReadyH.nil
      exact AllReadyH.nil
     exact AllReadyH.nil
    exact AllReadyH.nil
   exact AllReadyH.nil
  ·obtain rfl:i=l.length:=by omega
   have hlt2:¬((l.length:Int) < (l.length:Int)):=by omega
   obtain ⟨y0,y1,y2,y3,y4,y5,y6,y7⟩:=bc8 (hyb)
   obtain ⟨ht,hr⟩:=Acc.rda (l:=us.map Un.ad) (A:=A) (c:=c) (by rw [zzP];exact HACL.out)
   rw [zzP] at hr
   have hp:=rput_any rb ⟨k,ast,ix,ra,rc,r,A,c,us.map Un.ad,false,0,0⟩ v' L' wl (ht.more (fun x hx=>zzI _ hx)) (by rw [built_len HBU.out HSHL.out];have h1:=HSZ.out;rw [List.take_of_length_le (by rw [HSH.out,unfRs_map,trs_map,zzP,zzP];exact zzF _)];omega) (HR.out.rki HKL.out) (by
    simp only [zzP]
    exact hr.mono fun b hb=>⟨hb.1,hb.2.1,hb.2.2.1,fun hm=>hb.2.2.2 (zzI _ hm)⟩) (fun j hj=>by
    obtain ⟨s,hs,rfl⟩:=List.mem_map.1 hj
    exact (HBU.out.ads s (sub_allU hs)).2)
   simp only [zzP] at hp
   have HP:=zzA hp
   clear ht hr hp hac hk hbu hsh hul hfr hnx hny hws hxb hrr
   go_wp2_with fail
   refine HP.out.mono ?_
   rintro e w8 ⟨rfl,v8,ht8,hk8⟩
   simp only []
   go_wp2_with fail
   go_ret
   refine ⟨v8,_,.mk L'.length k r ast ix false us,rfl,ht8,HKL.out.trans hk8,HBU.out.put (x:=⟨k,ast,ix,ra,rc,r,A,c,us.map Un.ad,false,0,0⟩) (k:=k) rfl (kindR_id HKR.out),?_⟩
   show Us.mk k r ast ix false (shUs us)=_
   rw [shUs_map,HSHL.out,List.take_of_length_le (by rw [HSH.out,unfRs_map,trs_map,zzP,zzP];exact zzF _),HSH.out,Ta.tr,unfR,if_pos HK6.out]
end Go.Proofs.Ytkhkllpdhnmhkaa
