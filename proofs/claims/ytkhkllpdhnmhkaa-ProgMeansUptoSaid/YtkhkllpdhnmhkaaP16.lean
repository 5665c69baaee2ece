/- heronref06's Tree.repeat: so often, and then maybe. -/
import Derived.Test.YtkhkllpdhnmhkaaP15
namespace Go.Proofs.Ytkhkllpdhnmhkaa
open Go.RowKit Mean
set_option maxRecDepth 100000 in
set_option maxHeartbeats 4000000 in
theorem rrep_d (X:List Nat) (rb:Nat) (k:Int) (r:List (Int × Int)) (ra:Option Addr) (rc:Nat) (ast:Int) (sa:Option Addr) (sc:Nat) (mn mx:Int) (z:Bool) (ix:Int) (nm:ByteArray) (s:Ta) (v:Value) (L:List NdV) (w:World) (m0 d0:Nat) (hm0:mn=(m0:Int)) (hd0:mx=mn+(d0:Int)+1) (H0:UnfOk6 s) (h:RT w (Fs X rb v w) (Ta.mk k r ra rc ast [s] sa sc (mn) (mx) z ix nm)) (htb:TbR X rb v L w) (hsz:L.length+szU (repR (unfR s.tr) mn mx z)≤1000000000) :
  Calls Try.prog 37 #[.pointer (some ⟨rb,0,none⟩),(Ta.mk k r ra rc ast [s] sa sc (mn) (mx) z ix nm).val] w fun e w'=>∃ v' L' u,e=.returned (.int .i64 (u.ad:Int))∧TbR X rb v' L' w'∧RKI rb v w v' w'∧BuiltL L L' [u]∧shU u=repR (unfR s.tr) mn mx z:=by
 have hmb:mn≤1000000001∧mx≤2000000003:=rep_bdd hm0 hd0 hsz
 have hx0:¬mx < 0:=by omega
 have hxn:mn < mx:=by omega
 have hwr:IntKind.i64.wrap (mx - mn)=mx - mn:=by rw [IntKind.wrap_i64];omega
 have HM0:=zzA hm0
 have HD0:=zzA hd0
 clear hm0 hd0
 obtain ⟨-,hN,hL⟩:=h.parts
 have hs:=hL s (zzE.2 rfl)
 have hb0:Below w.heap.size w (w.alloc (.cells #[.int .i64 k,.slice ra r.length rc,.int .i64 ast,.slice sa 1 sc,.int .i64 mn,.int .i64 mx,.bool z,.int .i64 ix,.string nm] 25)):=(zzb _ _).alloc (zzF _) _
 have hnb:=htb.new 25 [.int .i64 k,.slice ra r.length rc,.int .i64 ast,.slice sa 1 sc,.int .i64 mn,.int .i64 mx,.bool z,.int .i64 ix,.string nm]
 have hbl:=hnb.blk
 obtain ⟨bs,os,rfl,hbs,hcs⟩:=hN.2.2.2.2 (by simp)
 have hsc:=hN.1
 have hsc2:=hN.2.1
 simp only [zzO,List.length_nil,Nat.zero_add] at hsc
 cases s with
 | mk k2 r2 ra2 rc2 a2 l2 sa2 sc2 mn2 mx2 z2 ix2 nm2 =>
 have hkk:RKI rb v w v (w.alloc (.cells #[.int .i64 k,.slice ra r.length rc,.int .i64 ast,.slice (some ⟨bs,os,none⟩) 1 sc,.int .i64 mn,.int .i64 mx,.bool z,.int .i64 ix,.string nm] 25)):=.of_below hb0
 have hc:∀ q u,(Ta.mk k2 r2 ra2 rc2 a2 l2 sa2 sc2 mn2 mx2 z2 ix2 nm2).vals[q]?=some u→(w.alloc (.cells #[.int .i64 k,.slice ra r.length rc,.int .i64 ast,.slice (some ⟨bs,os,none⟩) 1 sc,.int .i64 mn,.int .i64 mx,.bool z,.int .i64 ix,.string nm] 25)).cell? ⟨bs,os+q,none⟩=some u:=fun q u hq=>(hb0.cell (p:=⟨bs,os+q,none⟩) hbs.1).trans (hcs q u (by simp only [rowT,zzY];exact hq))
 have sr0:=hc 0 _ rfl
 have sr1:=hc 1 _ rfl
 have sr2:=hc 2 _ rfl
 have sr3:=hc 3 _ rfl
 have sr4:=hc 4 _ rfl
 have sr5:=hc 5 _ rfl
 have sr6:=hc 6 _ rfl
 have sr7:=hc 7 _ rfl
 have sr8:=hc 8 _ rfl
 simp only [Nat.add_zero] at sr0
 obtain ⟨xr0,xr1,xr2,xr3,xr4,xr5,xr6,xr7,xr8⟩:=bc9 (hbl)
 have hT1:=(htb.below hb0)
 have hNB1:=hT1.new 25 [.int .i64 k2,.slice ra2 r2.length rc2,.int .i64 a2,.slice sa2 l2.length sc2,.int .i64 mn2,.int .i64 mx2,.bool z2,.int .i64 ix2,.string nm2]
 have hb1:Below (w.alloc (.cells #[.int .i64 k,.slice ra r.length rc,.int .i64 ast,.slice (some ⟨bs,os,none⟩) 1 sc,.int .i64 mn,.int .i64 mx,.bool z,.int .i64 ix,.string nm] 25)).heap.size (w.alloc (.cells #[.int .i64 k,.slice ra r.length rc,.int .i64 ast,.slice (some ⟨bs,os,none⟩) 1 sc,.int .i64 mn,.int .i64 mx,.bool z,.int .i64 ix,.string nm] 25)) ((w.alloc (.cells #[.int .i64 k,.slice ra r.length rc,.int .i64 ast,.slice (some ⟨bs,os,none⟩) 1 sc,.int .i64 mn,.int .i64 mx,.bool z,.int .i64 ix,.string nm] 25)).alloc (.cells #[.int .i64 k2,.slice ra2 r2.length rc2,.int .i64 a2,.slice sa2 l2.length sc2,.int .i64 mn2,.int .i64 mx2,.bool z2,.int .i64 ix2,.string nm2] 25)):=(zzb _ _).alloc (zzF _) _
 rw [show (w.alloc (.cells #[.int .i64 k,.slice ra r.length rc,.int .i64 ast,.slice (some ⟨bs,os,none⟩) 1 sc,.int .i64 mn,.int .i64 mx,.bool z,.int .i64 ix,.string nm] 25)).heap.size=w.heap.size+1 from by simp] at hNB1
 have HT:=zzA (hT1.below hb1)
 have hk1:RKI rb v w v ((w.alloc (.cells #[.int .i64 k,.slice ra r.length rc,.int .i64 ast,.slice (some ⟨bs,os,none⟩) 1 sc,.int .i64 mn,.int .i64 mx,.bool z,.int .i64 ix,.string nm] 25)).alloc (.cells #[.int .i64 k2,.slice ra2 r2.length rc2,.int .i64 a2,.slice sa2 l2.length sc2,.int .i64 mn2,.int .i64 mx2,.bool z2,.int .i64 ix2,.string nm2] 25)):=hkk.trans (.of_below hb1)
 have HK:=zzA hk1
 have HRT:=zzA (hs.rki hk1)
 have HNX:=zzA ((show RKI rb v (w.alloc (.cells #[.int .i64 k,.slice ra r.length rc,.int .i64 ast,.slice (some ⟨bs,os,none⟩) 1 sc,.int .i64 mn,.int .i64 mx,.bool z,.int .i64 ix,.string nm] 25)) v ((w.alloc (.cells #[.int .i64 k,.slice ra r.length rc,.int .i64 ast,.slice (some ⟨bs,os,none⟩) 1 sc,.int .i64 mn,.int .i64 mx,.bool z,.int .i64 ix,.string nm] 25)).alloc (.cells #[.int .i64 k2,.slice ra2 r2.length rc2,.int .i64 a2,.slice sa2 l2.length sc2,.int .i64 mn2,.int .i64 mx2,.bool z2,.int .i64 ix2,.string nm2] 25)) from .of_below hb1).nb hnb)
 have HNY:=zzA hNB1
 have HU:=zzA H0
 have hxx:=HNX.out.blk
 have hyy:=HNY.out.blk
 obtain ⟨xs0,xs1,xs2,xs3,xs4,xs5,xs6,xs7,xs8⟩:=bc9 (hxx)
 obtain ⟨ys0,ys1,ys2,ys3,ys4,ys5,ys6,ys7,ys8⟩:=bc9 (hyy)
 obtain ⟨tt,htt⟩:∃ tt,tt=unfR (Ta.mk k2 r2 ra2 rc2 a2 l2 sa2 sc2 mn2 mx2 z2 ix2 nm2).tr:=⟨_,rfl⟩
 unfold UnfOk6 at HU
 rw [←htt] at HU hsz ⊢
 simp only [Ta.val,Ta.vals] at HU
 simp only [Ta.val,Ta.vals,zzO,List.length_nil,Nat.zero_add]
 have HTT:=zzA htt
 clear h hN hL hs hb0 hnb hbl hcs hbs hkk hc hT1 hNB1 hb1 hk1 htt hxx hyy htb
 go_enter Try.func37,Try.ntmps37
 go_wp2_with fail
 have hsz2:L.length+szUs (List.replicate m0 tt++[optU z tt d0])≤1000000000:=by
  refine zzU (Nat.add_le_add_left (sz_row_ge _) _) ?_
  rwa [rep_eqd HM0.out HD0.out] at hsz
 have HREQ:=zzA (rep_eqd (x:=tt) (z:=z) HM0.out HD0.out)
 have HN1:=zzA (show mn=(m0:Int) from by have hm0:=HM0.out;have hd0:=HD0.out;omega)
 clear xr0 xr1 xr2 xr3 xr4 xr5 xr6 xr7 xr8 sr0 sr1 sr2 sr3 sr4 sr5 sr6 sr7 sr8 hsz
 clear xs0 xs1 xs2 xs3 xs4 xs5 xs6 xs7 xs8 ys0 ys1 ys2 ys3 ys4 ys5 ys6 ys7 ys8
 generalize ((w.alloc (.cells #[.int .i64 k,.slice ra r.length rc,.int .i64 ast,.slice (some ⟨bs,os,none⟩) 1 sc,.int .i64 mn,.int .i64 mx,.bool z,.int .i64 ix,.string nm] 25)).alloc (.cells #[.int .i64 k2,.slice ra2 r2.length rc2,.int .i64 a2,.slice sa2 l2.length sc2,.int .i64 mn2,.int .i64 mx2,.bool z2,.int .i64 ix2,.string nm2] 25))=w1 at *
 go_loopw [8,6] (fun iv lv wr=>∃ (i:Nat) (A:Option Addr) (c:Nat) (us:List Un) (v':Value) (L':List NdV),i≤m0∧iv=.int .i64 (i:Int)∧lv=.slice A us.length c∧Acc X rb v' L' wr (.slice A us.length c) (us.map Un.ad)∧RKI rb v w1 v' wr∧BuiltL L L' us∧us.map shU=List.replicate i tt∧(∀ g,(Value.slice A us.length c).ownBlock=some g→w1.heap.size≤g)) (fun iv _ _=>m0 - (intOf iv).toNat)
 case atStart=>exact ⟨0,none,0,[],v,L,zzZ _,rfl,rfl,Acc.nil HT.out,.of_below (zzb _ _),BuiltL.nil L,rfl,(fun g hg=>by cases hg)⟩
 case round =>
  obtain ⟨i,A,c,us,v',L',hi,rfl,rfl,hac,hk,hbu,hsh,hfr⟩:=hrel
  obtain ⟨wl,hwl⟩:∃ wl,wl=wr:=⟨_,rfl⟩
  subst hwl
  have hx:=(hk.nb HNX.out).blk
  have hy:=(hk.nb HNY.out).blk
  obtain ⟨xs0,xs1,xs2,xs3,xs4,xs5,xs6,xs7,xs8⟩:=bc9 (hx)
  obtain ⟨ys0,ys1,ys2,ys3,ys4,ys5,ys6,ys7,ys8⟩:=bc9 (hy)
  have hL':L'.length=L.length+i*szU tt:=by rw [built_len hbu hsh,szUs_rep]
  have hulen:us.length=i:=by have:=congrArg List.length hsh;rwa [zzP,List.length_replicate] at this
  have hrt:=HRT.out.grow (X':=(Value.slice A us.length c).ownBlock.toList++X) hk (fun x hx=>by
   rcases zzM.1 hx with hx | hx
   ·exact .inr (hfr x (by simpa using hx))
   ·exact .inl hx)
  have hrr:=hac.own
  rw [zzP] at hrr
  have hr1:=(Reads.of_own hrr).1
  have hr2:=(Reads.of_own hrr).2.1
  obtain ⟨i1,hi1,hz10,hz11,hz12⟩:=info_parts info_intR
  have HAC:=zzA hac
  have HKL:=zzA hk
  have HBU:=zzA hbu
  have HSH:=zzA hsh
  have HFR:=zzA hfr
  have HRTL:=zzA hrt
  have HUL:=zzA hulen
  have HLL:=zzA hL'
  have hui:us.length≤m0:=by omega
  clear hulen hL'
  clear hac hk hbu hsh hfr hrt hx hy hrr
  by_cases hlt:i < m0
  ·have hlt2:(i:Int) < mn:=by have:=HN1.out;omega
   have hsz5:(i+1)*szU tt≤m0*szU tt:=Nat.mul_le_mul_right _ hlt
   have hsz6:L'.length+szU tt≤1000000000:=by
    rw [szUs_append,szUs_rep] at hsz2
    rw [Nat.add_mul,Nat.one_mul] at hsz5
    have:=HLL.out
    omega
   have hi9:us.length≤1000000000:=by have:=szU_pos tt;have:=Nat.mul_le_mul_left i this;have:=HLL.out;have:=HUL.out;omega
   go_wp2_with fail
   refine (HU.out _ rb v' L' wl HRTL.out HAC.out.tb hsz6).mono ?_
   rintro e w2 ⟨v2,L2,u2,rfl,ht2,hk2,hb2,hs2⟩
   have hac2:=HAC.out.step hk2 ht2
   have hbw:Below w2.heap.size w2 (w2.alloc (.cells #[.int .i64 (u2.ad:Int)] 3)):=(zzb _ _).alloc (zzF _) _
   have HA3:=zzA (hac2.below hbw)
   have HK3:=zzA (HKL.out.trans (hk2.trans (show RKI rb v2 w2 v2 (w2.alloc (.cells #[.int .i64 (u2.ad:Int)] 3)) from .of_below hbw)))
   have HB2:=zzA hb2
   have HS2:=zzA hs2
   have ho:=HA3.out.own
   rw [zzP] at ho
   clear ht2 hk2 hb2 hs2 hac2 hbw xs0 xs1 xs2 xs3 xs4 xs5 xs6 xs7 xs8 ys0 ys1 ys2 ys3 ys4 ys5 ys6 ys7 ys8
   simp only []
   go_wp2_with (at_builtin;go_loud (refine wpList_append_lies _ rfl (.tmp 42) (.tmp 46) 26 rfl 0 3 i1 (.int .i64 0) 1 8 Try.underlying26 hi1 hz10 hz11 hz12 rfl (by decide) (.slice A us.length c) us.length (numsR (us.map Un.ad)) rfl ho ⟨w2.heap.size,0,none⟩ 1 1 [.int .i64 (u2.ad:Int)] rfl rfl (new_atT w2 3 [.int .i64 (u2.ad:Int)]) (by simp [Value.oneCell']) (by decide) (by unfold maxLen;omega) (by omega) (zzZ _) _ rfl ?_);intro g2 cap2 w6 hou2 hg2 hat2 hlt2;have HA6:=zzA (HA3.out.grown (V':=.slice (some ⟨g2,0,none⟩) (us.length+1) cap2) (l':=(us++[u2]).map Un.ad) hg2 (by rw [zzP,zzG,zzT,numsR,zzT];exact hou2) (fun g hg=>by rw [show g2=g from by simpa [Value.ownBlock] using hg] at hat2;exact at_old (zzF _) hat2));have HK6:=zzA ((HK3.out).far hg2 HFR.out);have HF6:=zzA (show ∀ g,(Value.slice (some ⟨g2,0,none⟩) (us.length+1) cap2).ownBlock=some g→w1.heap.size≤g from fun g hg=>by rw [show g2=g from by simpa [Value.ownBlock] using hg] at hat2;rcases hat2 with h | h;exact HFR.out g h;rw [h];have:=(HK3.out).kept.size;(try simp only [World.drew] at this ⊢);omega);clear hou2 hg2 hat2 hlt2)
   refine ⟨⟨i+1,some ⟨g2,0,none⟩,cap2,us++[u2],v2,L2,by omega,by go_num,by rw [zzG];rfl,by rw [zzG];exact HA6.out,HK6.out,HBU.out.snoc HB2.out,?_,by rw [zzG];exact HF6.out⟩,by simp [intOf];omega⟩
   rw [zzT,HSH.out,zzS,List.map_nil,HS2.out,List.replicate_succ']
  ·obtain rfl:i=m0:=by omega
   have hlt2:¬((i:Int) < mn):=by have:=HN1.out;omega
   have hop:=ropt_any (X0:=[]) (rb:=rb) k2 r2 ra2 rc2 a2 l2 sa2 sc2 mn2 mx2 z2 ix2 nm2 z H0 d0 _ v' L' wl HRTL.out HAC.out.tb (by
    rw [szUs_append,szUs_rep,szUs,szUs] at hsz2
    rw [←HTT.out]
    have:=HLL.out
    omega)
   rw [←HTT.out,show ((d0+1:Nat):Int)=mx - mn from by have:=HD0.out;omega] at hop
   simp only [Ta.val,Ta.vals] at hop
   have hi9:us.length≤1000000000:=by have:=rep_many (x:=tt) i [optU z tt d0];have:=HUL.out;omega
   go_wp2_with fail
   refine hop.mono ?_
   rintro e w2 ⟨v2,L2,u2,rfl,ht2,hk2,hb2,hs2⟩
   have hac2:=HAC.out.step hk2 ht2
   have hbw:Below w2.heap.size w2 (w2.alloc (.cells #[.int .i64 (u2.ad:Int)] 3)):=(zzb _ _).alloc (zzF _) _
   have HA3:=zzA (hac2.below hbw)
   have HK3:=zzA (HKL.out.trans (hk2.trans (show RKI rb v2 w2 v2 (w2.alloc (.cells #[.int .i64 (u2.ad:Int)] 3)) from .of_below hbw)))
   have HB2:=zzA hb2
   have HS2:=zzA hs2
   have ho:=HA3.out.own
   rw [zzP] at ho
   clear ht2 hk2 hb2 hs2 hac2 hbw hop xs0 xs1 xs2 xs3 xs4 xs5 xs6 xs7 xs8 ys0 ys1 ys2 ys3 ys4 ys5 ys6 ys7 ys8
   simp only []
   go_wp2_with (at_builtin;go_loud (refine wpList_append_lies _ rfl (.tmp 68) (.tmp 79) 26 rfl 0 3 i1 (.int .i64 0) 1 8 Try.underlying26 hi1 hz10 hz11 hz12 rfl (by decide) (.slice A us.length c) us.length (numsR (us.map Un.ad)) rfl ho ⟨w2.heap.size,0,none⟩ 1 1 [.int .i64 (u2.ad:Int)] rfl rfl (new_atT w2 3 [.int .i64 (u2.ad:Int)]) (by simp [Value.oneCell']) (by decide) (by unfold maxLen;omega) (by omega) (zzZ _) _ rfl ?_);intro g2 cap2 w6 hou2 hg2 hat2 hlt2;have HA6:=zzA (HA3.out.grown (V':=.slice (some ⟨g2,0,none⟩) (us.length+1) cap2) (l':=(us++[u2]).map Un.ad) hg2 (by rw [zzP,zzG,zzT,numsR,zzT];exact hou2) (fun g hg=>by rw [show g2=g from by simpa [Value.ownBlock] using hg] at hat2;exact at_old (zzF _) hat2));have HK6:=zzA ((HK3.out).far hg2 HFR.out);have HF6:=zzA (show ∀ g,(Value.slice (some ⟨g2,0,none⟩) (us.length+1) cap2).ownBlock=some g→w1.heap.size≤g from fun g hg=>by rw [show g2=g from by simpa [Value.ownBlock] using hg] at hat2;rcases hat2 with h | h;exact HFR.out g h;rw [h];have:=(HK3.out).kept.size;(try simp only [World.drew] at this ⊢);omega);clear hou2 hg2 hat2 hlt2)
   have hbn:BuiltL L L2 (us++[u2]):=HBU.out.snoc HB2.out
   have hsn:(us++[u2]).map shU=List.replicate i tt++[optU z tt d0]:=by rw [zzT,HSH.out,zzS,List.map_nil,HS2.out]
   have hun:(us++[u2]).length=us.length+1:=by rw [zzG];rfl
   have HA7:=zzA HA6.out
   rw [←hun] at HA7 ⊢
   obtain ⟨ht7,hr7⟩:=Acc.rda (l:=(us++[u2]).map Un.ad) (A:=some ⟨g2,0,none⟩) (c:=cap2) (by rw [zzP];exact HA7.out)
   rw [zzP] at hr7
   refine (rrow_any (us++[u2]) (some ⟨g2,0,none⟩) cap2 ht7 (by rw [built_len hbn hsn];omega) hbn hr7).mono ?_
   rintro e w8 ⟨v8,L8,u8,rfl,ht8,hk8,hb8,hs8⟩
   simp only []
   go_wp2_with fail
   go_ret
   exact ⟨v8,L8,u8,rfl,ht8,(HK.out.trans HK6.out).trans hk8,hb8,by rw [hs8,hsn,HREQ.out]⟩
end Go.Proofs.Ytkhkllpdhnmhkaa
namespace Go.Proofs.Ytkhkllpdhnmhkaa
open Go.RowKit Mean
set_option maxRecDepth 100000 in
set_option maxHeartbeats 4000000 in
theorem rrep_b (X:List Nat) (rb:Nat) (k:Int) (r:List (Int × Int)) (ra:Option Addr) (rc:Nat) (ast:Int) (sa:Option Addr) (sc:Nat) (mn:Int) (z:Bool) (ix:Int) (nm:ByteArray) (s:Ta) (v:Value) (L:List NdV) (w:World) (m0:Nat) (hm0:mn=(m0:Int)+1) (H0:UnfOk6 s) (h:RT w (Fs X rb v w) (Ta.mk k r ra rc ast [s] sa sc (mn) ((-1)) z ix nm)) (htb:TbR X rb v L w) (hsz:L.length+szU (repR (unfR s.tr) mn (-1) z)≤1000000000) :
  Calls Try.prog 37 #[.pointer (some ⟨rb,0,none⟩),(Ta.mk k r ra rc ast [s] sa sc (mn) ((-1)) z ix nm).val] w fun e w'=>∃ v' L' u,e=.returned (.int .i64 (u.ad:Int))∧TbR X rb v' L' w'∧RKI rb v w v' w'∧BuiltL L L' [u]∧shU u=repR (unfR s.tr) mn (-1) z:=by
 have hmb:mn≤1000000001:=rep_bdb hm0 hsz
 have hn0:(mn==0)=false:=by rw [beq_eq_false_iff_ne];omega
 have hwr:IntKind.i64.wrap (mn - 1)=mn - 1:=by rw [IntKind.wrap_i64];omega
 have HM0:=zzA hm0
 clear hm0
 obtain ⟨-,hN,hL⟩:=h.parts
 have hs:=hL s (zzE.2 rfl)
 have hb0:Below w.heap.size w (w.alloc (.cells #[.int .i64 k,.slice ra r.length rc,.int .i64 ast,.slice sa 1 sc,.int .i64 mn,.int .i64 (-1),.bool z,.int .i64 ix,.string nm] 25)):=(zzb _ _).alloc (zzF _) _
 have hnb:=htb.new 25 [.int .i64 k,.slice ra r.length rc,.int .i64 ast,.slice sa 1 sc,.int .i64 mn,.int .i64 (-1),.bool z,.int .i64 ix,.string nm]
 have hbl:=hnb.blk
 obtain ⟨bs,os,rfl,hbs,hcs⟩:=hN.2.2.2.2 (by simp)
 have hsc:=hN.1
 have hsc2:=hN.2.1
 simp only [zzO,List.length_nil,Nat.zero_add] at hsc
 cases s with
 | mk k2 r2 ra2 rc2 a2 l2 sa2 sc2 mn2 mx2 z2 ix2 nm2 =>
 have hkk:RKI rb v w v (w.alloc (.cells #[.int .i64 k,.slice ra r.length rc,.int .i64 ast,.slice (some ⟨bs,os,none⟩) 1 sc,.int .i64 mn,.int .i64 (-1),.bool z,.int .i64 ix,.string nm] 25)):=.of_below hb0
 have hc:∀ q u,(Ta.mk k2 r2 ra2 rc2 a2 l2 sa2 sc2 mn2 mx2 z2 ix2 nm2).vals[q]?=some u→(w.alloc (.cells #[.int .i64 k,.slice ra r.length rc,.int .i64 ast,.slice (some ⟨bs,os,none⟩) 1 sc,.int .i64 mn,.int .i64 (-1),.bool z,.int .i64 ix,.string nm] 25)).cell? ⟨bs,os+q,none⟩=some u:=fun q u hq=>(hb0.cell (p:=⟨bs,os+q,none⟩) hbs.1).trans (hcs q u (by simp only [rowT,zzY];exact hq))
 have sr0:=hc 0 _ rfl
 have sr1:=hc 1 _ rfl
 have sr2:=hc 2 _ rfl
 have sr3:=hc 3 _ rfl
 have sr4:=hc 4 _ rfl
 have sr5:=hc 5 _ rfl
 have sr6:=hc 6 _ rfl
 have sr7:=hc 7 _ rfl
 have sr8:=hc 8 _ rfl
 simp only [Nat.add_zero] at sr0
 obtain ⟨xr0,xr1,xr2,xr3,xr4,xr5,xr6,xr7,xr8⟩:=bc9 (hbl)
 have hT1:=(htb.below hb0)
 have hNB1:=hT1.new 25 [.int .i64 k2,.slice ra2 r2.length rc2,.int .i64 a2,.slice sa2 l2.length sc2,.int .i64 mn2,.int .i64 mx2,.bool z2,.int .i64 ix2,.string nm2]
 have hb1:Below (w.alloc (.cells #[.int .i64 k,.slice ra r.length rc,.int .i64 ast,.slice (some ⟨bs,os,none⟩) 1 sc,.int .i64 mn,.int .i64 (-1),.bool z,.int .i64 ix,.string nm] 25)).heap.size (w.alloc (.cells #[.int .i64 k,.slice ra r.length rc,.int .i64 ast,.slice (some ⟨bs,os,none⟩) 1 sc,.int .i64 mn,.int .i64 (-1),.bool z,.int .i64 ix,.string nm] 25)) ((w.alloc (.cells #[.int .i64 k,.slice ra r.length rc,.int .i64 ast,.slice (some ⟨bs,os,none⟩) 1 sc,.int .i64 mn,.int .i64 (-1),.bool z,.int .i64 ix,.string nm] 25)).alloc (.cells #[.int .i64 k2,.slice ra2 r2.length rc2,.int .i64 a2,.slice sa2 l2.length sc2,.int .i64 mn2,.int .i64 mx2,.bool z2,.int .i64 ix2,.string nm2] 25)):=(zzb _ _).alloc (zzF _) _
 rw [show (w.alloc (.cells #[.int .i64 k,.slice ra r.length rc,.int .i64 ast,.slice (some ⟨bs,os,none⟩) 1 sc,.int .i64 mn,.int .i64 (-1),.bool z,.int .i64 ix,.string nm] 25)).heap.size=w.heap.size+1 from by simp] at hNB1
 have HT:=zzA (hT1.below hb1)
 have hk1:RKI rb v w v ((w.alloc (.cells #[.int .i64 k,.slice ra r.length rc,.int .i64 ast,.slice (some ⟨bs,os,none⟩) 1 sc,.int .i64 mn,.int .i64 (-1),.bool z,.int .i64 ix,.string nm] 25)).alloc (.cells #[.int .i64 k2,.slice ra2 r2.length rc2,.int .i64 a2,.slice sa2 l2.length sc2,.int .i64 mn2,.int .i64 mx2,.bool z2,.int .i64 ix2,.string nm2] 25)):=hkk.trans (.of_below hb1)
 have HK:=zzA hk1
 have HRT:=zzA (hs.rki hk1)
 have HNX:=zzA ((show RKI rb v (w.alloc (.cells #[.int .i64 k,.slice ra r.length rc,.int .i64 ast,.slice (some ⟨bs,os,none⟩) 1 sc,.int .i64 mn,.int .i64 (-1),.bool z,.int .i64 ix,.string nm] 25)) v ((w.alloc (.cells #[.int .i64 k,.slice ra r.length rc,.int .i64 ast,.slice (some ⟨bs,os,none⟩) 1 sc,.int .i64 mn,.int .i64 (-1),.bool z,.int .i64 ix,.string nm] 25)).alloc (.cells #[.int .i64 k2,.slice ra2 r2.length rc2,.int .i64 a2,.slice sa2 l2.length sc2,.int .i64 mn2,.int .i64 mx2,.bool z2,.int .i64 ix2,.string nm2] 25)) from .of_below hb1).nb hnb)
 have HNY:=zzA hNB1
 have HU:=zzA H0
 have hxx:=HNX.out.blk
 have hyy:=HNY.out.blk
 obtain ⟨xs0,xs1,xs2,xs3,xs4,xs5,xs6,xs7,xs8⟩:=bc9 (hxx)
 obtain ⟨ys0,ys1,ys2,ys3,ys4,ys5,ys6,ys7,ys8⟩:=bc9 (hyy)
 obtain ⟨tt,htt⟩:∃ tt,tt=unfR (Ta.mk k2 r2 ra2 rc2 a2 l2 sa2 sc2 mn2 mx2 z2 ix2 nm2).tr:=⟨_,rfl⟩
 unfold UnfOk6 at HU
 rw [←htt] at HU hsz ⊢
 simp only [Ta.val,Ta.vals] at HU
 simp only [Ta.val,Ta.vals,zzO,List.length_nil,Nat.zero_add]
 clear h hN hL hs hb0 hnb hbl hcs hbs hkk hc hT1 hNB1 hb1 hk1 htt hxx hyy htb H0
 go_enter Try.func37,Try.ntmps37
 go_wp2_with fail
 have hsz2:L.length+szUs (List.replicate m0 tt++[loopU (-3) z tt])≤1000000000:=by
  refine zzU (Nat.add_le_add_left (sz_row_ge _) _) ?_
  rwa [rep_eqb HM0.out] at hsz
 have HREQ:=zzA (rep_eqb (x:=tt) (z:=z) HM0.out)
 have HN1:=zzA (show (mn - 1)=(m0:Int) from by have hm0:=HM0.out;omega)
 clear xr0 xr1 xr2 xr3 xr4 xr5 xr6 xr7 xr8 sr0 sr1 sr2 sr3 sr4 sr5 sr6 sr7 sr8 hsz
 clear xs0 xs1 xs2 xs3 xs4 xs5 xs6 xs7 xs8 ys0 ys1 ys2 ys3 ys4 ys5 ys6 ys7 ys8
 generalize ((w.alloc (.cells #[.int .i64 k,.slice ra r.length rc,.int .i64 ast,.slice (some ⟨bs,os,none⟩) 1 sc,.int .i64 mn,.int .i64 (-1),.bool z,.int .i64 ix,.string nm] 25)).alloc (.cells #[.int .i64 k2,.slice ra2 r2.length rc2,.int .i64 a2,.slice sa2 l2.length sc2,.int .i64 mn2,.int .i64 mx2,.bool z2,.int .i64 ix2,.string nm2] 25))=w1 at *
 go_loopw [8,6] (fun iv lv wr=>∃ (i:Nat) (A:Option Addr) (c:Nat) (us:List Un) (v':Value) (L':List NdV),i≤m0∧iv=.int .i64 (i:Int)∧lv=.slice A us.length c∧Acc X rb v' L' wr (.slice A us.length c) (us.map Un.ad)∧RKI rb v w1 v' wr∧BuiltL L L' us∧us.map shU=List.replicate i tt∧(∀ g,(Value.slice A us.length c).ownBlock=some g→w1.heap.size≤g)) (fun iv _ _=>m0 - (intOf iv).toNat)
 case atStart=>exact ⟨0,none,0,[],v,L,zzZ _,rfl,rfl,Acc.nil HT.out,.of_below (zzb _ _),BuiltL.nil L,rfl,(fun g hg=>by cases hg)⟩
 case round =>
  obtain ⟨i,A,c,us,v',L',hi,rfl,rfl,hac,hk,hbu,hsh,hfr⟩:=hrel
  obtain ⟨wl,hwl⟩:∃ wl,wl=wr:=⟨_,rfl⟩
  subst hwl
  have hx:=(hk.nb HNX.out).blk
  have hy:=(hk.nb HNY.out).blk
  obtain ⟨xs0,xs1,xs2,xs3,xs4,xs5,xs6,xs7,xs8⟩:=bc9 (hx)
  obtain ⟨ys0,ys1,ys2,ys3,ys4,ys5,ys6,ys7,ys8⟩:=bc9 (hy)
  have hL':L'.length=L.length+i*szU tt:=by rw [built_len hbu hsh,szUs_rep]
  have hulen:us.length=i:=by have:=congrArg List.length hsh;rwa [zzP,List.length_replicate] at this
  have hrt:=HRT.out.grow (X':=(Value.slice A us.length c).ownBlock.toList++X) hk (fun x hx=>by
   rcases zzM.1 hx with hx | hx
   ·exact .inr (hfr x (by simpa using hx))
   ·exact .inl hx)
  have hrr:=hac.own
  rw [zzP] at hrr
  have hr1:=(Reads.of_own hrr).1
  have hr2:=(Reads.of_own hrr).2.1
  obtain ⟨i1,hi1,hz10,hz11,hz12⟩:=info_parts info_intR
  have HAC:=zzA hac
  have HKL:=zzA hk
  have HBU:=zzA hbu
  have HSH:=zzA hsh
  have HFR:=zzA hfr
  have HRTL:=zzA hrt
  have HUL:=zzA hulen
  have HLL:=zzA hL'
  have hui:us.length≤m0:=by omega
  clear hulen hL'
  clear hac hk hbu hsh hfr hrt hx hy hrr
  by_cases hlt:i < m0
  ·have hlt2:(i:Int) < (mn - 1):=by have:=HN1.out;omega
   have hsz5:(i+1)*szU tt≤m0*szU tt:=Nat.mul_le_mul_right _ hlt
   have hsz6:L'.length+szU tt≤1000000000:=by
    rw [szUs_append,szUs_rep] at hsz2
    rw [Nat.add_mul,Nat.one_mul] at hsz5
    have:=HLL.out
    omega
   have hi9:us.length≤1000000000:=by have:=szU_pos tt;have:=Nat.mul_le_mul_left i this;have:=HLL.out;have:=HUL.out;omega
   go_wp2_with fail
   refine (HU.out _ rb v' L' wl HRTL.out HAC.out.tb hsz6).mono ?_
   rintro e w2 ⟨v2,L2,u2,rfl,ht2,hk2,hb2,hs2⟩
   have hac2:=HAC.out.step hk2 ht2
   have hbw:Below w2.heap.size w2 (w2.alloc (.cells #[.int .i64 (u2.ad:Int)] 3)):=(zzb _ _).alloc (zzF _) _
   have HA3:=zzA (hac2.below hbw)
   have HK3:=zzA (HKL.out.trans (hk2.trans (show RKI rb v2 w2 v2 (w2.alloc (.cells #[.int .i64 (u2.ad:Int)] 3)) from .of_below hbw)))
   have HB2:=zzA hb2
   have HS2:=zzA hs2
   have ho:=HA3.out.own
   rw [zzP] at ho
   clear ht2 hk2 hb2 hs2 hac2 hbw xs0 xs1 xs2 xs3 xs4 xs5 xs6 xs7 xs8 ys0 ys1 ys2 ys3 ys4 ys5 ys6 ys7 ys8
   simp only []
   go_wp2_with (at_builtin;go_loud (refine wpList_append_lies _ rfl (.tmp 42) (.tmp 46) 26 rfl 0 3 i1 (.int .i64 0) 1 8 Try.underlying26 hi1 hz10 hz11 hz12 rfl (by decide) (.slice A us.length c) us.length (numsR (us.map Un.ad)) rfl ho ⟨w2.heap.size,0,none⟩ 1 1 [.int .i64 (u2.ad:Int)] rfl rfl (new_atT w2 3 [.int .i64 (u2.ad:Int)]) (by simp [Value.oneCell']) (by decide) (by unfold maxLen;omega) (by omega) (zzZ _) _ rfl ?_);intro g2 cap2 w6 hou2 hg2 hat2 hlt2;have HA6:=zzA (HA3.out.grown (V':=.slice (some ⟨g2,0,none⟩) (us.length+1) cap2) (l':=(us++[u2]).map Un.ad) hg2 (by rw [zzP,zzG,zzT,numsR,zzT];exact hou2) (fun g hg=>by rw [show g2=g from by simpa [Value.ownBlock] using hg] at hat2;exact at_old (zzF _) hat2));have HK6:=zzA ((HK3.out).far hg2 HFR.out);have HF6:=zzA (show ∀ g,(Value.slice (some ⟨g2,0,none⟩) (us.length+1) cap2).ownBlock=some g→w1.heap.size≤g from fun g hg=>by rw [show g2=g from by simpa [Value.ownBlock] using hg] at hat2;rcases hat2 with h | h;exact HFR.out g h;rw [h];have:=(HK3.out).kept.size;(try simp only [World.drew] at this ⊢);omega);clear hou2 hg2 hat2 hlt2)
   refine ⟨⟨i+1,some ⟨g2,0,none⟩,cap2,us++[u2],v2,L2,by omega,by go_num,by rw [zzG];rfl,by rw [zzG];exact HA6.out,HK6.out,HBU.out.snoc HB2.out,?_,by rw [zzG];exact HF6.out⟩,by simp [intOf];omega⟩
   rw [zzT,HSH.out,zzS,List.map_nil,HS2.out,List.replicate_succ']
  ·obtain rfl:i=m0:=by omega
   have hlt2:¬((i:Int) < (mn - 1)):=by have:=HN1.out;omega
   have hsz6:L'.length+szU tt+1≤1000000000:=by
    rw [szUs_append,szUs_rep,szUs,szUs,loopU,szU,szUs,szUs] at hsz2
    have:=HLL.out
    omega
   have hi9:us.length≤1000000000:=by have:=szU_pos tt;have:=Nat.mul_le_mul_left i this;have:=HLL.out;have:=HUL.out;omega
   have HTL:=zzA HAC.out.tb
   have HNXL:=zzA (HKL.out.nb HNX.out)
   have HNYL:=zzA (HKL.out.nb HNY.out)
   go_wp2_with fail
   have kA:=(show wl.cell? ⟨w.heap.size+1,0,none⟩=some (.int .i64 k2)∧wl.cell? ⟨w.heap.size+1,1,none⟩=some (.slice ra2 r2.length rc2)∧wl.cell? ⟨w.heap.size+1,2,none⟩=some (.int .i64 a2)∧wl.cell? ⟨w.heap.size+1,3,none⟩=some (.slice sa2 l2.length sc2)∧wl.cell? ⟨w.heap.size+1,4,none⟩=some (.int .i64 mn2)∧wl.cell? ⟨w.heap.size+1,5,none⟩=some (.int .i64 mx2)∧wl.cell? ⟨w.heap.size+1,6,none⟩=some (.bool z2)∧wl.cell? ⟨w.heap.size+1,7,none⟩=some (.int .i64 ix2)∧wl.cell? ⟨w.heap.size+1,8,none⟩=some (.string nm2)∧wl.cell? ⟨w.heap.size,6,none⟩=some (.bool z) from ⟨HNYL.out.blk.cell 0,HNYL.out.blk.cell 1,HNYL.out.blk.cell 2,HNYL.out.blk.cell 3,HNYL.out.blk.cell 4,HNYL.out.blk.cell 5,HNYL.out.blk.cell 6,HNYL.out.blk.cell 7,HNYL.out.blk.cell 8,HNXL.out.blk.cell 6⟩)
   clear xs0 xs1 xs2 xs3 xs4 xs5 xs6 xs7 xs8 ys0 ys1 ys2 ys3 ys4 ys5 ys6 ys7 ys8
   refine wp_region_held_drew (S:=(fun u=>u.cell? ⟨w.heap.size+1,0,none⟩=some (.int .i64 k2)∧u.cell? ⟨w.heap.size+1,1,none⟩=some (.slice ra2 r2.length rc2)∧u.cell? ⟨w.heap.size+1,2,none⟩=some (.int .i64 a2)∧u.cell? ⟨w.heap.size+1,3,none⟩=some (.slice sa2 l2.length sc2)∧u.cell? ⟨w.heap.size+1,4,none⟩=some (.int .i64 mn2)∧u.cell? ⟨w.heap.size+1,5,none⟩=some (.int .i64 mx2)∧u.cell? ⟨w.heap.size+1,6,none⟩=some (.bool z2)∧u.cell? ⟨w.heap.size+1,7,none⟩=some (.int .i64 ix2)∧u.cell? ⟨w.heap.size+1,8,none⟩=some (.string nm2)∧u.cell? ⟨w.heap.size,6,none⟩=some (.bool z))) (by kernel_rfl) kA (fun hS0=>?_)
   refine wpAnyH_take (i:=0) (oi:={ dst:=some 51,op:=Op.move (Operand.tmp 6),type:=26,pos:= "ref.go:112",after:=#[],guard:=none }) (v:=?_) rfl (by kernel_rfl) (by kernel_rfl) (by kernel_rfl) (fun _ _ _ h=>h) (Or.inl ⟨by rfl,?_⟩) (by assumption) ?_
   rotate_left
   ·intro w hSw;(try dsimp only at hSw);go_simp;(try with_reducible rfl)
   (try simp only [Act.put,zzB,zzD,zzC])
   refine wpAnyH_take (i:=1) (oi:={ dst:=some 52,op:=Op.move (Operand.tmp 0),type:=65,pos:= "ref.go:112",after:=#[],guard:=none }) (v:=?_) rfl (by kernel_rfl) (by kernel_rfl) (by kernel_rfl) (fun _ _ _ h=>h) (Or.inl ⟨by rfl,?_⟩) (by assumption) ?_
   rotate_left
   ·intro w hSw;(try dsimp only at hSw);go_simp;(try with_reducible rfl)
   (try simp only [Act.put,zzB,zzD,zzC])
   refine wpAnyH_take (i:=2) (oi:={ dst:=some 53,op:=Op.move (Operand.tmp 0),type:=65,pos:= "ref.go:112",after:=#[],guard:=none }) (v:=?_) rfl (by kernel_rfl) (by kernel_rfl) (by kernel_rfl) (fun _ _ _ h=>h) (Or.inl ⟨by rfl,?_⟩) (by assumption) ?_
   rotate_left
   ·intro w hSw;(try dsimp only at hSw);go_simp;(try with_reducible rfl)
   (try simp only [Act.put,zzB,zzD,zzC])
   refine wpAnyH_take (i:=3) (oi:={ dst:=some 54,op:=Op.load 25 (Operand.tmp 5),type:=25,pos:= "ref.go:112",after:=#[],guard:=none }) (v:=?_) rfl (by kernel_rfl) (by kernel_rfl) (by kernel_rfl) (fun _ _ _ h=>h) (Or.inl ⟨by rfl,?_⟩) (by assumption) ?_
   rotate_left
   ·intro w hSw;(try dsimp only at hSw);go_simp;(try with_reducible rfl)
   (try simp only [Act.put,zzB,zzD,zzC])
   refine wpAnyH_take (i:=6) (oi:={ dst:=some 57,op:=Op.fieldAddr 25 (Operand.tmp 3) 6,type:=0,pos:= "ref.go:112",after:=#[],guard:=none }) (v:=?_) rfl (by kernel_rfl) (by kernel_rfl) (by kernel_rfl) (fun _ _ _ h=>h) (Or.inl ⟨by rfl,?_⟩) (by assumption) ?_
   rotate_left
   ·intro w hSw;(try dsimp only at hSw);go_simp;(try with_reducible rfl)
   (try simp only [Act.put,zzB,zzD,zzC])
   refine wpAnyH_take (i:=7) (oi:={ dst:=some 58,op:=Op.load 4 (Operand.tmp 57),type:=4,pos:= "ref.go:112",after:=#[{ on:=6,ground:=Ground.data }],guard:=none }) (v:=?_) rfl (by kernel_rfl) (by kernel_rfl) (by kernel_rfl) (fun _ _ _ h=>h) (Or.inl ⟨by rfl,?_⟩) (by assumption) ?_
   rotate_left
   ·intro w hSw;(try dsimp only at hSw);go_simp;(try with_reducible rfl)
   (try simp only [Act.put,zzB,zzD,zzC])
   refine wpAnyH_ready (rs:=[4]) (by kernel_rfl) (by simp) ?_
   refine AllReadyH.cons (o:={ dst:=some 55,op:=Op.call { callee:=Callee.value (Operand.func 25),args:=#[Operand.tmp 53,Operand.tmp 54],argTypes:=#[65,25] },type:=3,pos:= "ref.go:112",after:=#[{ on:=2,ground:=Ground.data },{ on:=3,ground:=Ground.data }],guard:=none }) rfl (fun K hK=>?_) ?_
   ·skip
    refine step_call6 rfl 25 (.tmp 53) (.tmp 54) 65 25 rfl _ _ rfl rfl (enters6 Try.func25 (by kernel_rfl) (by kernel_rfl)) ?_
    refine (HU.out ((Value.slice A us.length c).ownBlock.toList++X) rb v' L' wl.drew (HRTL.out.rki (.of_below (zzb _ _).drew)) (HTL.out.drew) (by omega)).mono ?_
    rintro e w2 ⟨v2,L2,u2,rfl,ht2,hk2,hb2,hs2⟩
    have hkd:RKI rb v' wl v2 w2:=(show RKI rb v' wl v' wl.drew from .of_below (zzb _ _).drew).trans hk2
    have HK2:=zzA (HKL.out.trans hkd)
    have HKD:=zzA hkd
    have HB2:=zzA hb2
    have HS2:=zzA hs2
    have HA2:=zzA (Acc.single ht2 u2.ad)
    have hbw:Below w2.heap.size w2 (w2.alloc (.cells #[.int .i64 (u2.ad:Int)] 3)):=(zzb _ _).alloc (zzF _) _
    have hkw:RKI rb v2 w2 v2 (w2.alloc (.cells #[.int .i64 (u2.ad:Int)] 3)):=.of_below hbw
    have HKW:=zzA hkw
    have HNX2:=zzA (hkd.nb HNXL.out)
    have HNY2:=zzA (hkd.nb HNYL.out)
    have HNX3:=zzA (hkw.nb HNX2.out)
    have HNY3:=zzA (hkw.nb HNY2.out)
    have hL2:L2.length≤1000000000:=by have:=hb2.len;rw [allU_one,all_len,hs2] at this;omega
    clear ht2 hk2 hb2 hs2 hbw hkw hkd
    refine ⟨_,rfl,?_⟩
    refine hK.out _ _ ?_ (fun hHeld=>?_)
    ·exact ⟨HNY2.out.blk.cell 0,HNY2.out.blk.cell 1,HNY2.out.blk.cell 2,HNY2.out.blk.cell 3,HNY2.out.blk.cell 4,HNY2.out.blk.cell 5,HNY2.out.blk.cell 6,HNY2.out.blk.cell 7,HNY2.out.blk.cell 8,HNX2.out.blk.cell 6⟩
    clear hK K hHeld
    (try simp only [Act.put,zzB,zzD,zzC])
    refine wpAnyH_ready (rs:=[5]) (by kernel_rfl) (by simp) ?_
    refine AllReadyH.cons (o:={ dst:=some 56,op:=Op.buildSlice 26 1 #[(0,Operand.tmp 55)],type:=26,pos:= "ref.go:112",after:=#[{ on:=4,ground:=Ground.data }],guard:=none }) rfl (fun K hK=>?_) ?_
    ·skip
     go_simp
     refine hK.out _ _ ?_ (fun hHeld=>?_)
     ·exact ⟨HNY3.out.blk.cell 0,HNY3.out.blk.cell 1,HNY3.out.blk.cell 2,HNY3.out.blk.cell 3,HNY3.out.blk.cell 4,HNY3.out.blk.cell 5,HNY3.out.blk.cell 6,HNY3.out.blk.cell 7,HNY3.out.blk.cell 8,HNX3.out.blk.cell 6⟩
     clear hK K hHeld
     (try simp only [Act.put,zzB,zzD,zzC])
     refine wpAnyH_ready (rs:=[8]) (by kernel_rfl) (by simp) ?_
     refine AllReadyH.cons (o:={ dst:=some 59,op:=Op.build 87 #[(0,Operand.const (Value.int IntKind.i64 102)),(4,Operand.tmp 56),(5,Operand.tmp 58)],type:=87,pos:= "ref.go:112",after:=#[{ on:=5,ground:=Ground.data },{ on:=7,ground:=Ground.data }],guard:=none }) rfl (fun K hK=>?_) ?_
     ·skip
      go_simp
      refine hK.out _ _ ?_ (fun hHeld=>?_)
      ·exact ⟨HNY3.out.blk.cell 0,HNY3.out.blk.cell 1,HNY3.out.blk.cell 2,HNY3.out.blk.cell 3,HNY3.out.blk.cell 4,HNY3.out.blk.cell 5,HNY3.out.blk.cell 6,HNY3.out.blk.cell 7,HNY3.out.blk.cell 8,HNX3.out.blk.cell 6⟩
      clear hK K hHeld
      (try simp only [Act.put,zzB,zzD,zzC])
      refine wpAnyH_ready (rs:=[9]) (by kernel_rfl) (by simp) ?_
      refine AllReadyH.cons (o:={ dst:=some 60,op:=Op.call { callee:=Callee.value (Operand.func 38),args:=#[Operand.tmp 52,Operand.tmp 59],argTypes:=#[65,87] },type:=3,pos:= "ref.go:112",after:=#[{ on:=1,ground:=Ground.data },{ on:=8,ground:=Ground.data },{ on:=4,ground:=Ground.chain }],guard:=none }) rfl (fun K hK=>?_) ?_
      ·skip
       obtain ⟨ht3,hr3⟩:=Acc.rda (l:=[u2.ad]) HA2.out
       have hp:=rput_any rb ⟨102,0,0,none,0,[],some ⟨w2.heap.size,0,none⟩,1,[u2.ad],z,0,0⟩ v2 L2 (w2.alloc (.cells #[.int .i64 (u2.ad:Int)] 3)) ht3 hL2 RdA.none_ hr3 (fun j hj=>by rw [zzE] at hj;rw [hj];exact (HB2.out.ads u2 (by rw [allU_one];exact self_all u2)).2)
       simp only [zzO,List.length_nil,Nat.zero_add] at hp
       refine step_call6 rfl 38 (.tmp 52) (.tmp 59) 65 87 rfl _ _ rfl rfl (enters6 Try.func38 (by kernel_rfl) (by kernel_rfl)) ?_
       refine hp.mono ?_
       rintro e w4 ⟨rfl,v4,ht4,hk4⟩
       have HT4:=zzA ht4
       have HK4:=zzA (HK2.out.trans (HKW.out.trans hk4))
       have HNX4:=zzA (hk4.nb HNX3.out)
       have HNY4:=zzA (hk4.nb HNY3.out)
       have HKE:=zzA (HKD.out.trans (HKW.out.trans hk4))
       have hac4:=HAC.out.step HKE.out HT4.out
       have hbw4:Below w4.heap.size w4 (w4.alloc (.cells #[.int .i64 (L2.length:Int)] 3)):=(zzb _ _).alloc (zzF _) _
       have HA5:=zzA (hac4.below hbw4)
       have hkw5:RKI rb v4 w4 v4 (w4.alloc (.cells #[.int .i64 (L2.length:Int)] 3)):=.of_below hbw4
       have HK5:=zzA (HKL.out.trans (HKE.out.trans hkw5))
       have HNX5:=zzA (hkw5.nb HNX4.out)
       have HNY5:=zzA (hkw5.nb HNY4.out)
       clear ht3 hr3 hp ht4 hk4 hac4 hbw4 hkw5
       refine ⟨_,rfl,?_⟩
       refine hK.out _ _ ?_ (fun hHeld=>?_)
       ·exact ⟨HNY4.out.blk.cell 0,HNY4.out.blk.cell 1,HNY4.out.blk.cell 2,HNY4.out.blk.cell 3,HNY4.out.blk.cell 4,HNY4.out.blk.cell 5,HNY4.out.blk.cell 6,HNY4.out.blk.cell 7,HNY4.out.blk.cell 8,HNX4.out.blk.cell 6⟩
       clear hK K hHeld
       (try simp only [Act.put,zzB,zzD,zzC])
       refine wpAnyH_ready (rs:=[10]) (by kernel_rfl) (by simp) ?_
       refine AllReadyH.cons (o:={ dst:=some 61,op:=Op.buildSlice 26 1 #[(0,Operand.tmp 60)],type:=26,pos:= "ref.go:112",after:=#[{ on:=9,ground:=Ground.data }],guard:=none }) rfl (fun K hK=>?_) ?_
       ·skip
        go_simp
        refine hK.out _ _ ?_ (fun hHeld=>?_)
        ·exact ⟨HNY5.out.blk.cell 0,HNY5.out.blk.cell 1,HNY5.out.blk.cell 2,HNY5.out.blk.cell 3,HNY5.out.blk.cell 4,HNY5.out.blk.cell 5,HNY5.out.blk.cell 6,HNY5.out.blk.cell 7,HNY5.out.blk.cell 8,HNX5.out.blk.cell 6⟩
        clear hK K hHeld
        (try simp only [Act.put,zzB,zzD,zzC])
        refine wpAnyH_ready (rs:=[11]) (by kernel_rfl) (by simp) ?_
        refine AllReadyH.cons (o:={ dst:=some 62,op:=Op.call { callee:=Callee.builtin Builtin.append,args:=#[Operand.tmp 51,Operand.tmp 61],argTypes:=#[26,26] },type:=26,pos:= "ref.go:112",after:=#[{ on:=0,ground:=Ground.data },{ on:=10,ground:=Ground.data },{ on:=9,ground:=Ground.chain }],guard:=none }) rfl (fun K hK=>?_) ?_
        ·skip
         have ho:=HA5.out.own
         rw [zzP] at ho
         refine step_append_lies _ rfl (.tmp 51) (.tmp 61) 26 rfl 0 3 i1 (.int .i64 0) 1 8 Try.underlying26 hi1 hz10 hz11 hz12 rfl (by decide) (.slice A us.length c) us.length (numsR (us.map Un.ad)) rfl ho ⟨w4.heap.size,0,none⟩ 1 1 [.int .i64 (L2.length:Int)] rfl rfl (new_atT w4 3 [.int .i64 (L2.length:Int)]) (by simp [Value.oneCell']) (by decide) (by unfold maxLen;omega) (by omega) (zzZ _) _ rfl ?_
         intro g2 cap2 w6 hou2 hg2 hat2 hlt2
         have HNX6:=zzA (nb_far HNX5.out hg2 HAC.out HFR.out HNX.out)
         have HNY6:=zzA (nb_far HNY5.out hg2 HAC.out HFR.out HNY.out)
         have HA6:=zzA (HA5.out.grown (V':=.slice (some ⟨g2,0,none⟩) (us.length+1) cap2) (l':=(us++[(Un.mk L2.length (-3) [] 0 0 z [u2])]).map Un.ad) hg2 (by rw [zzP,zzG,zzT,numsR,zzT];exact hou2) (fun g hg=>by rw [show g2=g from by simpa [Value.ownBlock] using hg] at hat2;exact at_old (zzF _) hat2));have HK6:=zzA ((HK5.out).far hg2 HFR.out);have HF6:=zzA (show ∀ g,(Value.slice (some ⟨g2,0,none⟩) (us.length+1) cap2).ownBlock=some g→w1.heap.size≤g from fun g hg=>by rw [show g2=g from by simpa [Value.ownBlock] using hg] at hat2;rcases hat2 with h | h;exact HFR.out g h;rw [h];have:=(HK5.out).kept.size;(try simp only [World.drew] at this ⊢);omega)
         clear hou2 hg2 hat2 ho
         refine hK.out _ _ ?_ (fun hHeld=>?_)
         ·exact ⟨HNY6.cell 0,HNY6.cell 1,HNY6.cell 2,HNY6.cell 3,HNY6.cell 4,HNY6.cell 5,HNY6.cell 6,HNY6.cell 7,HNY6.cell 8,HNX6.cell 6⟩
         clear hK K hHeld
         (try simp only [Act.put,zzB,zzD,zzC])
         refine wpAnyH_ready (rs:=[12]) (by kernel_rfl) (by simp) ?_
         refine AllReadyH.cons (o:={ dst:=some 6,op:=Op.assign (Operand.tmp 62),type:=26,pos:= "ref.go:112",after:=#[{ on:=11,ground:=Ground.data },{ on:=11,ground:=Ground.chain },{ on:=0,ground:=Ground.phase },{ on:=1,ground:=Ground.phase },{ on:=2,ground:=Ground.phase },{ on:=3,ground:=Ground.phase },{ on:=4,ground:=Ground.phase },{ on:=5,ground:=Ground.phase },{ on:=6,ground:=Ground.phase },{ on:=7,ground:=Ground.phase },{ on:=8,ground:=Ground.phase },{ on:=9,ground:=Ground.phase },{ on:=10,ground:=Ground.phase },{ on:=11,ground:=Ground.phase }],guard:=none }) rfl (fun K hK=>?_) ?_
         ·skip
          go_simp
          refine hK.out _ _ ?_ (fun hHeld=>?_)
          ·exact ⟨HNY6.cell 0,HNY6.cell 1,HNY6.cell 2,HNY6.cell 3,HNY6.cell 4,HNY6.cell 5,HNY6.cell 6,HNY6.cell 7,HNY6.cell 8,HNX6.cell 6⟩
          clear hK K hHeld
          (try simp only [Act.put,zzB,zzD,zzC])
          refine wpAnyH_done (by kernel_rfl) ?_ _
          go_wp2_with fail
          have hbn:BuiltL L (putL L2 ⟨102,0,0,none,0,[],some ⟨w2.heap.size,0,none⟩,1,[u2.ad],z,0,0⟩) (us++[(Un.mk L2.length (-3) [] 0 0 z [u2])]):=HBU.out.snoc (HB2.out.put (x:=⟨102,0,0,none,0,[],some ⟨w2.heap.size,0,none⟩,1,[u2.ad],z,0,0⟩) (k:=-3) rfl rfl)
          have hsn:(us++[(Un.mk L2.length (-3) [] 0 0 z [u2])]).map shU=List.replicate i tt++[loopU (-3) z tt]:=by rw [zzT,HSH.out,zzS,List.map_nil,show shU (Un.mk L2.length (-3) [] 0 0 z [u2])=loopU (-3) z tt from by show Us.mk (-3) [] 0 0 z (shUs [u2])=_;rw [shUs,shUs,HS2.out];rfl]
          have hun:(us++[(Un.mk L2.length (-3) [] 0 0 z [u2])]).length=us.length+1:=by rw [zzG];rfl
          have HA7:=zzA HA6.out
          rw [←hun] at HA7 ⊢
          obtain ⟨ht7,hr7⟩:=Acc.rda (l:=(us++[(Un.mk L2.length (-3) [] 0 0 z [u2])]).map Un.ad) (A:=some ⟨g2,0,none⟩) (c:=cap2) (by rw [zzP];exact HA7.out)
          rw [zzP] at hr7
          refine (rrow_any (us++[(Un.mk L2.length (-3) [] 0 0 z [u2])]) (some ⟨g2,0,none⟩) cap2 ht7 (by rw [built_len hbn hsn];omega) hbn hr7).mono ?_
          rintro e w8 ⟨v8,L8,u8,rfl,ht8,hk8,hb8,hs8⟩
          simp only []
          go_wp2_with fail
          go_ret
          exact ⟨v8,L8,u8,rfl,ht8,(HK.out.trans HK6.out).trans hk8,hb8,by rw [hs8,hsn,HREQ.out]⟩
         exact AllReadyH.nil
        exact AllReadyH.nil
       exact AllReadyH.nil
      exact AllReadyH.nil
     exact AllReadyH.nil
    exact AllReadyH.nil
   exact AllReadyH.nil
end Go.Proofs.Ytkhkllpdhnmhkaa
