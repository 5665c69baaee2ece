/- heronref06.Parses. -/
import Derived.Test.YtkhkllpdhnmhkaaP05
import Derived.Test.YtkhkllpdhnmhkaaP08
import Derived.Test.YtkhkllpdhnmhkaaP26
import Derived.Test.YtkhkllpdhnmhkaaP27
import Derived.Test.YtkhkllpdhnmhkaaP31
import Derived.Test.YtkhkllpdhnmhkaaP32
namespace Go.Proofs.Ytkhkllpdhnmhkaa
open Go.RowKit Tr
theorem rt_up6 {w w':World} {t:Ta} (h:RT w (· < w.heap.size) t) (hb:Below w.heap.size w w'):RT w' (· < w'.heap.size) t :=
 (h.go fun b h=>hb.block b h).mono fun b h=>zzQ h hb.size
def Came6 (t:List Int) (a0:Nat) (tr:Tr.Tr) (w':World) (A:Option Addr) (oc m:Nat):Prop :=
 ∃ (ps:List (Nat × Option Addr × Nat × List Int)) (u:Mean.Un) (s':Mean.St),m=ps.length∧shU u=unfR tr∧(u.all.map Mean.Un.ad).Nodup∧Mean.One t a0 st0 (.beg u a0 (List.replicate (2+2*(greatest tr).toNat) (-1)) .top) s'∧s'.out=ps.map (fun p=>(p.1,p.2.2.2)) ∧
  Reads w' w'.heap.size 2 A ps.length oc (outW6 ps)∧∀ p∈ps,Reads w' w'.heap.size 1 p.2.1 p.2.2.2.length p.2.2.1 (p.2.2.2.map (Value.int .i64))∧p.2.2.2.length=2+2*(greatest tr).toNat
theorem info_rowsR:(Try.prog.info? 70).map (fun i=>(i.zero,i.size,i.bytes))=some (some (.slice none 0 0),1,24):=by kernel_rfl
set_option maxRecDepth 100000 in
set_option maxHeartbeats 8000000 in
theorem parses6_any (k:Int) (r:List (Int × Int)) (ra:Option Addr) (rc:Nat) (ast:Int) (l:List Ta) (sa:Option Addr) (sc:Nat) (mn mx:Int) (z:Bool) (ix:Int) (nm:ByteArray) (At:Option Addr) (n c a0:Nat) (t:List Int) (w:World) (h:RT w (· < w.heap.size) (Ta.mk k r ra rc ast l sa sc mn mx z ix nm)) (htx:RdA w (· < w.heap.size) 1 At n c (t.map (Value.int .i64))) (hn:n≤64) (ha:a0≤n) (hso:soundB (Ta.mk k r ra rc ast l sa sc mn mx z ix nm).tr=true) :
  Calls Try.prog 9 #[(Ta.mk k r ra rc ast l sa sc mn mx z ix nm).val,.slice At n c,.int .i64 (a0:Int)] w fun e w'=>Below w.heap.size w w'∧((2000 < uz (Ta.mk k r ra rc ast l sa sc mn mx z ix nm).tr∧e=.returned (.tuple #[.slice none 0 0,.int .i64 3]))∨∃ A oc m,e=.returned (.tuple #[.slice A m oc,.int .i64 0])∧Came6 t a0 (Ta.mk k r ra rc ast l sa sc mn mx z ix nm).tr w' A oc m):=by
 obtain ⟨hall,hdp,-⟩:=sound_all hso
 have hb0:Below w.heap.size w (w.alloc (.cells #[.int .i64 k,.slice ra r.length rc,.int .i64 ast,.slice sa l.length sc,.int .i64 mn,.int .i64 mx,.bool z,.int .i64 ix,.string nm] 25)):=(zzb _ _).alloc (zzF _) _
 have HBL0:=zzA (Blk.new w 25 [.int .i64 k,.slice ra r.length rc,.int .i64 ast,.slice sa l.length sc,.int .i64 mn,.int .i64 mx,.bool z,.int .i64 ix,.string nm])
 have HB0:=zzA hb0
 obtain ⟨xr0,xr1,xr2,xr3,xr4,xr5,xr6,xr7,xr8⟩:=bc9 (HBL0.out)
 have htl:t.length=n:=by have:=htx.2.2.1;rw [zzP] at this;omega
 have hnc:=htx.1
 have hcm:=htx.2.1
 have hsnd:=fun (w':World) (hb:Below w.heap.size w w')=>rSound_any (Ta.mk k r ra rc ast l sa sc mn mx z ix nm) (· < w'.heap.size) w' (rt_up6 h hb) (fun b hb=>hb)
 have hsiz:=fun (w':World) (hb:Below w.heap.size w w')=>rsize_any (Ta.mk k r ra rc ast l sa sc mn mx z ix nm) (· < w'.heap.size) w' (rt_up6 h hb) hall (fun b hb=>hb)
 have hgrt:=fun (w':World) (hb:Below w.heap.size w w')=>rgrt_any (Ta.mk k r ra rc ast l sa sc mn mx z ix nm) (· < w'.heap.size) w' (rt_up6 h hb) (fun b hb=>hb)
 have hunf:=fun (X:List Nat) (rb:Nat) (v:Value) (L:List NdV) (w':World)=>runfold_any (Ta.mk k r ra rc ast l sa sc mn mx z ix nm) hall X rb v L w'
 have hrt:=fun (w':World) (hb:Below w.heap.size w w')=>(h.go (w':=w') fun b h=>hb.block b h)
 have htx2:=fun (w':World) (hb:Below w.heap.size w w')=>(htx.go (w':=w') fun b h=>hb.block b h).mono fun b h=>zzQ h hb.size
 obtain ⟨tt,htt⟩:∃ tt,tt=(Ta.mk k r ra rc ast l sa sc mn mx z ix nm).tr:=⟨_,rfl⟩
 have hg0:0≤greatest tt∧greatest tt≤500:=by rw [htt];exact grt_bd _ hall
 have hsv:sv tt=.int .i64 0:=by unfold sv;rw [htt,if_pos hso]
 rw [←htt] at hall hdp hsnd hsiz hgrt hunf ⊢
 rw [hsv] at hsnd
 simp only [Ta.val,Ta.vals] at hsnd hsiz hgrt hunf
 have HSND:=zzA hsnd
 have HSIZ:=zzA hsiz
 have HGRT:=zzA hgrt
 have HUNF:=zzA hunf
 have HRT:=zzA hrt
 have HTX:=zzA htx2
 have HALL:=zzA hall
 have HDP:=zzA hdp
 have HG0:=zzA hg0
 have HTL:=zzA htl
 have hn64:¬((64:Int) < (n:Int)):=by omega
 have ha1:¬((a0:Int) < 0):=by omega
 have ha2:¬((n:Int) < (a0:Int)):=by omega
 simp only [Ta.val,Ta.vals]
 clear h htx hso hall hdp hb0 hsnd hsiz hgrt hunf hrt htx2 htt hg0 hsv htl
 go_enter Try.func9,Try.ntmps9
 go_wp2_with fail
 generalize (w.alloc (.cells #[.int .i64 k,.slice ra r.length rc,.int .i64 ast,.slice sa l.length sc,.int .i64 mn,.int .i64 mx,.bool z,.int .i64 ix,.string nm] 25))=w0 at *
 refine (HSND.out w0 HB0.out).mono ?_
 rintro e w1 ⟨rfl,hb1⟩
 have HB1:=zzA (HB0.out.trans (hb1.mono HB0.out.size))
 have HBL1:=zzA (HBL0.out.below hb1 HBL0.out.lt)
 obtain ⟨xs0,xs1,xs2,xs3,xs4,xs5,xs6,xs7,xs8⟩:=bc9 (HBL1.out)
 clear hb1 xr0 xr1 xr2 xr3 xr4 xr5 xr6 xr7 xr8
 simp only []
 go_wp2_with fail
 refine (HSIZ.out w1 HB1.out).mono ?_
 rintro e w2 ⟨rfl,hb2⟩
 have HB2:=zzA (HB1.out.trans (hb2.mono HB1.out.size))
 have HBL2:=zzA (HBL1.out.below hb2 HBL1.out.lt)
 obtain ⟨xr0,xr1,xr2,xr3,xr4,xr5,xr6,xr7,xr8⟩:=bc9 (HBL2.out)
 clear hb2 xs0 xs1 xs2 xs3 xs4 xs5 xs6 xs7 xs8
 obtain ⟨zz,hzz⟩:∃ zz,zz=min (uz tt) 1073741824:=⟨_,rfl⟩
 rw [←hzz]
 have HZZ:=zzA hzz
 clear hzz
 simp only []
 by_cases hbig:2000 < zz
 ·have hbig2:(2000:Int) < (zz:Int):=by omega
  go_wp2_with fail
  go_ret2
  exact ⟨HB2.out,.inl ⟨by have:=HZZ.out;omega,rfl⟩⟩
 have hbig2:¬((2000:Int) < (zz:Int)):=by omega
 have hsz:szU (unfR tt)≤40004000:=by
  have h1:=sz_le tt 10001 HALL.out (by have:=HDP.out;omega)
  have h2:2*10001*uz tt≤2*10001*2000:=Nat.mul_le_mul_left _ (by have:=HZZ.out;omega)
  have h3:=sz_unfR tt
  omega
 have hb3:Below w2.heap.size w2 (w2.alloc (.cells #[.slice none 0 0] 68)):=(zzb _ _).alloc (zzF _) _
 have HB3:=zzA (HB2.out.trans (hb3.mono HB2.out.size))
 have HBL3:=zzA (HBL2.out.below hb3 HBL2.out.lt)
 obtain ⟨xs0,xs1,xs2,xs3,xs4,xs5,xs6,xs7,xs8⟩:=bc9 (HBL3.out)
 have hu3:=HUNF.out [] w2.heap.size (.slice none 0 0) [] (w2.alloc (.cells #[.slice none 0 0] 68)) ((HRT.out (w2.alloc (.cells #[.slice none 0 0] 68)) HB3.out).mono fun b hb=>⟨zzQ hb HB3.out.size,by have:=HB2.out.size;omega,by simp [Value.ownBlock],by simp⟩)
  ⟨Blk.new w2 68 [.slice none 0 0],World.ownsRow_nil _ _ _ _,by simp,by simp [Value.ownBlock],by simp⟩ (by simp only [List.length_nil];omega)
 have HU3:=zzA hu3
 have HSZ:=zzA hsz
 clear hu3 hb3 hsz
 go_wp2_with fail
 clear xr0 xr1 xr2 xr3 xr4 xr5 xr6 xr7 xr8
 generalize (w2.alloc (.cells #[.slice none 0 0] 68))=w3 at *
 refine HU3.out.mono ?_
 rintro e w4 ⟨v4,L4,u,rfl,htb,hrk,hbu,hshu⟩
 obtain ⟨A4,c4,rfl⟩:=own_shape htb.own
 have hL4:L4.length≤40004000:=by have:=hbu.len;rw [allU_one,all_len,hshu] at this;simp only [List.length_nil] at this;have:=HSZ.out;omega
 have hb4:Below w.heap.size w3 w4:=hrk.kept.below (fun k hk=>by
  simp only [Value.ownBlock,Option.toList_none,zzE] at hk
  rw [hk];exact HB2.out.size) HB3.out.size
 have HB4:=zzA (HB3.out.trans hb4)
 have HBL4:=zzA ((hrk.nb ⟨HBL3.out,by have:=HBL2.out.lt;omega,by simp [Value.ownBlock]⟩).blk)
 have HTB:=zzA htb
 have HBU:=zzA hbu
 have HSHU:=zzA hshu
 have hbA:Below w4.heap.size w4 (w4.alloc (.cells (Array.replicate (n+1) (.bool false)) 4)):=(zzb _ _).alloc (zzF _) _
 have hsA:(w4.alloc (.cells (Array.replicate (n+1) (.bool false)) 4)).heap.size=w4.heap.size+1:=by simp
 have hb5:Below w4.heap.size w4 ((w4.alloc (.cells (Array.replicate (n+1) (.bool false)) 4)).alloc (.cells #[.pointer (some ⟨w2.heap.size,0,none⟩),.slice At n c,.int .i64 (a0:Int),.slice none 0 0,.slice none 0 0,.slice (some ⟨w4.heap.size,0,none⟩) (n+1) (n+1),.slice none 0 0] 73)):=hbA.alloc hbA.size _
 have HB45:=zzA hb5
 have heb:Blk ((w4.alloc (.cells (Array.replicate (n+1) (.bool false)) 4)).alloc (.cells #[.pointer (some ⟨w2.heap.size,0,none⟩),.slice At n c,.int .i64 (a0:Int),.slice none 0 0,.slice none 0 0,.slice (some ⟨w4.heap.size,0,none⟩) (n+1) (n+1),.slice none 0 0] 73)) w4.heap.size 4 (List.replicate (n+1) (.bool false)):=by
  have e:Blk (w4.alloc (.cells (List.replicate (n+1) (.bool false)).toArray 4)) w4.heap.size 4 (List.replicate (n+1) (.bool false)):=Blk.new w4 4 (List.replicate (n+1) (.bool false))
  rw [List.toArray_replicate] at e
  exact e.alloc _
 have hwb:Blk ((w4.alloc (.cells (Array.replicate (n+1) (.bool false)) 4)).alloc (.cells #[.pointer (some ⟨w2.heap.size,0,none⟩),.slice At n c,.int .i64 (a0:Int),.slice none 0 0,.slice none 0 0,.slice (some ⟨w4.heap.size,0,none⟩) (n+1) (n+1),.slice none 0 0] 73)) (w4.heap.size+1) 73 [.pointer (some ⟨w2.heap.size,0,none⟩),.slice At n c,.int .i64 (a0:Int),.slice none 0 0,.slice none 0 0,.slice (some ⟨w4.heap.size,0,none⟩) (n+1) (n+1),.slice none 0 0]:=by
  have:=Blk.new (w4.alloc (.cells (Array.replicate (n+1) (.bool false)) 4)) 73 [.pointer (some ⟨w2.heap.size,0,none⟩),.slice At n c,.int .i64 (a0:Int),.slice none 0 0,.slice none 0 0,.slice (some ⟨w4.heap.size,0,none⟩) (n+1) (n+1),.slice none 0 0]
  rwa [hsA] at this
 have HEB:=zzA heb
 have HWB:=zzA hwb
 have hmk:∀ v:World,(Instr.makeSlice 70 (.int .i64 ((n:Int)+1)) (.int .i64 ((n:Int)+1))).run Try.prog v=.ok (.slice (some ⟨v.heap.size,0,none⟩) (n+1) (n+1)) (v.alloc (.cells (Array.replicate (n+1) (.bool false)) 4)):=fun v=>by
  have:=make_bools9 (n+1) (by omega) v
  rw [show ((n+1:Nat):Int)=(n:Int)+1 from by omega,List.map_replicate,List.toArray_replicate] at this
  exact this
 have hnw:IntKind.i64.wrap ((n:Int)+1)=(n:Int)+1:=by rw [IntKind.wrap_i64];omega
 clear htb hrk hbu hshu hb4 hbA hb5 heb hwb hsA xs0 xs1 xs2 xs3 xs4 xs5 xs6 xs7 xs8
 simp only []
 go_wp2_with fail
 have hRW0:∀ w5,w5=((w4.alloc (.cells (Array.replicate (n+1) (.bool false)) 4)).alloc (.cells #[.pointer (some ⟨w2.heap.size,0,none⟩),.slice At n c,.int .i64 (a0:Int),.slice none 0 0,.slice none 0 0,.slice (some ⟨w4.heap.size,0,none⟩) (n+1) (n+1),.slice none 0 0] 73))→RwS (w4.heap.size+1) (n+1) (.pointer (some ⟨w2.heap.size,0,none⟩)) (.slice At n c) (.int .i64 (a0:Int)) (.slice (some ⟨w4.heap.size,0,none⟩) (n+1) (n+1)) (.slice none 0 0) (.slice none 0 0) [] [] w5 w5:=fun w5 e=>by
  subst e
  exact ⟨zzb _ _,HWB.out,World.ownsRow_nil _ _ _ _,World.ownsRow_nil _ _ _ _,(fun g hg=>by cases hg),by simp,by simp⟩
 generalize hw5:((w4.alloc (.cells (Array.replicate (n+1) (.bool false)) 4)).alloc (.cells #[.pointer (some ⟨w2.heap.size,0,none⟩),.slice At n c,.int .i64 (a0:Int),.slice none 0 0,.slice none 0 0,.slice (some ⟨w4.heap.size,0,none⟩) (n+1) (n+1),.slice none 0 0] 73))=w5 at *
 have HRW0:=zzA (hRW0 w5 rfl)
 clear hRW0 hw5
 go_loopw [13] (fun iv wr=>∃ (i:Nat) (BA DA:Option Addr) (bc dc:Nat) (gb gd:List Nat),i≤L4.length∧iv=.int .i64 (i:Int)∧gb.length=i∧gd.length=i∧RwS (w4.heap.size+1) (n+1) (.pointer (some ⟨w2.heap.size,0,none⟩)) (.slice At n c) (.int .i64 (a0:Int)) (.slice (some ⟨w4.heap.size,0,none⟩) (n+1) (n+1)) (.slice BA gb.length bc) (.slice DA gd.length dc) gb gd w5 wr) (fun iv _=>L4.length - (intOf iv).toNat)
 case atStart=>exact ⟨0,none,none,0,0,[],[],zzZ _,rfl,rfl,rfl,HRW0.out⟩
 case round =>
  obtain ⟨i,BA,DA,bc,dc,gb,gd,hi,rfl,hgb,hgd,hrw⟩:=hrel
  obtain ⟨wl,hwl⟩:∃ wl,wl=wr:=⟨_,rfl⟩
  subst hwl
  have t0:wl.cell? ⟨w2.heap.size,0,none⟩=some (.slice A4 L4.length c4):=(hrw.below.cell (p:=⟨w2.heap.size,0,none⟩) (by have:=HTB.out.blk.lt;show w2.heap.size < _;omega)).trans ((HB45.out.cell (p:=⟨w2.heap.size,0,none⟩) HTB.out.blk.lt).trans (HTB.out.blk.cell 0))
  have HRW:=zzA hrw
  have HGB:=zzA hgb
  have HGD:=zzA hgd
  have hgbl:gb.length≤40004000:=by omega
  have hgdl:gd.length≤40004000:=by omega
  have hbr:=(Reads.of_own hrw.bown).1
  have hbr2:=(Reads.of_own hrw.bown).2.1
  have hdr:=(Reads.of_own hrw.down).1
  have hdr2:=(Reads.of_own hrw.down).2.1
  obtain ⟨i1,hi1,hz10,hz11,hz12⟩:=info_parts info_rowsR
  clear hgb hgd
  by_cases hlt:i < L4.length
  ·have hlt2:(i:Int) < (L4.length:Int):=by omega
   clear hrw
   go_wp2_with fail
   have HRWx:=HRW
   have hbMa:Below wl.heap.size wl (wl.drew.alloc (.cells (Array.replicate (n+1) (.bool false)) 4)):=((zzb _ _).drew).alloc (zzF _) _
   have hsMa:(wl.drew.alloc (.cells (Array.replicate (n+1) (.bool false)) 4)).heap.size=wl.heap.size+1:=by
    have e:((wl.drew).alloc (.cells (Array.replicate (n+1) (.bool false)) 4)).heap.size=(wl.drew).heap.size+1:=by simp
    exact e
   have hbSa:Below wl.heap.size wl ((wl.drew.alloc (.cells (Array.replicate (n+1) (.bool false)) 4)).alloc (.cells #[.slice (some ⟨wl.heap.size,0,none⟩) (n+1) (n+1)] 70)):=hbMa.alloc hbMa.size _
   have HOBa:=zzA (own_below HRW.out.bown hbSa)
   have hnaa:=new_atT (wl.drew.alloc (.cells (Array.replicate (n+1) (.bool false)) 4)) 70 [slB (n+1) wl.heap.size]
   rw [hsMa] at hnaa
   have HNAa:=zzA hnaa
   have HBSa:=zzA (show w4.heap.size+1≤((wl.drew.alloc (.cells (Array.replicate (n+1) (.bool false)) 4)).alloc (.cells #[.slice (some ⟨wl.heap.size,0,none⟩) (n+1) (n+1)] 70)).heap.size from by have:=HRW.out.blk.lt;have:=hbSa.size;omega)
   have HB6Pa:=zzA (fun (w6:World) (hg:((wl.drew.alloc (.cells (Array.replicate (n+1) (.bool false)) 4)).alloc (.cells #[.slice (some ⟨wl.heap.size,0,none⟩) (n+1) (n+1)] 70)).grownBy w6 (Value.slice BA gb.length bc).ownBlock)=>(HRW.out.blk.below hbSa HRW.out.blk.lt).kept (Kept.of_grown' hg) (fun hm=>blk_apart HOBa.out (HRW.out.blk.below hbSa HRW.out.blk.lt) (by decide) (by simpa [eq_comm] using hm)))
   have HSSa:=zzA (show ((wl.drew.alloc (.cells (Array.replicate (n+1) (.bool false)) 4)).alloc (.cells #[.slice (some ⟨wl.heap.size,0,none⟩) (n+1) (n+1)] 70)).heap.size=wl.heap.size+2 from by
    have e:((wl.drew.alloc (.cells (Array.replicate (n+1) (.bool false)) 4)).alloc (.cells #[.slice (some ⟨wl.heap.size,0,none⟩) (n+1) (n+1)] 70)).heap.size=(wl.drew.alloc (.cells (Array.replicate (n+1) (.bool false)) 4)).heap.size+1:=by simp
    rw [e,hsMa])
   have yaa:wl.drew.cell? ⟨w4.heap.size+1,3,none⟩=some (.slice BA gb.length bc):=HRW.out.blk.cell 3
   have yba:(wl.drew.alloc (.cells (Array.replicate (n+1) (.bool false)) 4)).cell? ⟨w4.heap.size+1,3,none⟩=some (.slice BA gb.length bc):=(HRW.out.blk.below hbMa HRW.out.blk.lt).cell 3
   have yca:((wl.drew.alloc (.cells (Array.replicate (n+1) (.bool false)) 4)).alloc (.cells #[.slice (some ⟨wl.heap.size,0,none⟩) (n+1) (n+1)] 70)).cell? ⟨w4.heap.size+1,3,none⟩=some (.slice BA gb.length bc):=(HRW.out.blk.below hbSa HRW.out.blk.lt).cell 3
   have ybax:(wl.alloc (.cells (Array.replicate (n+1) (.bool false)) 4)).cell? ⟨w4.heap.size+1,3,none⟩=some (.slice BA gb.length bc):=yba
   have ycax:((wl.alloc (.cells (Array.replicate (n+1) (.bool false)) 4)).alloc (.cells #[.slice (some ⟨wl.heap.size,0,none⟩) (n+1) (n+1)] 70)).cell? ⟨w4.heap.size+1,3,none⟩=some (.slice BA gb.length bc):=yca
   clear hbMa hsMa hbSa hnaa
   go_region_law (first | (refine step_append_lies _ rfl (.tmp 62) (.tmp 67) 71 rfl (w4.heap.size+1) 70 i1 (.slice none 0 0) 1 24 Try.underlying71 hi1 hz10 hz11 hz12 rfl (by decide) (.slice BA gb.length bc) gb.length (gb.map (slB (n+1))) rfl HOBa.out ⟨wl.heap.size+1,0,none⟩ 1 1 [slB (n+1) wl.heap.size] rfl rfl HNAa.out (by intro u hu;rw [zzE] at hu;rw [hu];rfl) (by decide) (by unfold maxLen;omega) (by omega) HBSa.out _ rfl ?_;intro g2a cap2a w6a hou hg2 hat2 hlt2;have HPa:=zzA (RwS.pushB (wA:=(wl.drew.alloc (.cells (Array.replicate (n+1) (.bool false)) 4))) (wB:=((wl.drew.alloc (.cells (Array.replicate (n+1) (.bool false)) 4)).alloc (.cells #[.slice (some ⟨wl.heap.size,0,none⟩) (n+1) (n+1)] 70))) HRW.out rfl rfl hg2 hou (hat2.imp id fun h=>Nat.le_of_eq h.symm));have HB6a:=zzA (HB6Pa.out _ hg2);have yda:w6a.cell? ⟨w4.heap.size+1,3,none⟩=some (.slice BA gb.length bc):=HB6a.out.cell 3;have yea:=HB6a.out.frozen 3;have yfa:=HB6a.out.lt;clear hou hg2 hat2))
   all_goals
    go_wp2_with fail
    have HRZ:=HPa
    have hgl1:(gb++[wl.heap.size]).length=gb.length+1:=by rw [zzG];rfl
    generalize hwz:(w6a.setCell ⟨w4.heap.size+1,3,none⟩ (.slice (some ⟨g2a,0,none⟩) (gb.length+1) cap2a))=wz at *
    clear hwz hgl1
    have hbMb:Below wz.heap.size wz (wz.drew.alloc (.cells (Array.replicate (n+1) (.bool false)) 4)):=((zzb _ _).drew).alloc (zzF _) _
    have hsMb:(wz.drew.alloc (.cells (Array.replicate (n+1) (.bool false)) 4)).heap.size=wz.heap.size+1:=by
     have e:((wz.drew).alloc (.cells (Array.replicate (n+1) (.bool false)) 4)).heap.size=(wz.drew).heap.size+1:=by simp
     exact e
    have hbSb:Below wz.heap.size wz ((wz.drew.alloc (.cells (Array.replicate (n+1) (.bool false)) 4)).alloc (.cells #[.slice (some ⟨wz.heap.size,0,none⟩) (n+1) (n+1)] 70)):=hbMb.alloc hbMb.size _
    have HOBb:=zzA (own_below HRZ.out.down hbSb)
    have hnab:=new_atT (wz.drew.alloc (.cells (Array.replicate (n+1) (.bool false)) 4)) 70 [slB (n+1) wz.heap.size]
    rw [hsMb] at hnab
    have HNAb:=zzA hnab
    have HBSb:=zzA (show w4.heap.size+1≤((wz.drew.alloc (.cells (Array.replicate (n+1) (.bool false)) 4)).alloc (.cells #[.slice (some ⟨wz.heap.size,0,none⟩) (n+1) (n+1)] 70)).heap.size from by have:=HRZ.out.blk.lt;have:=hbSb.size;omega)
    have HB6Pb:=zzA (fun (w6:World) (hg:((wz.drew.alloc (.cells (Array.replicate (n+1) (.bool false)) 4)).alloc (.cells #[.slice (some ⟨wz.heap.size,0,none⟩) (n+1) (n+1)] 70)).grownBy w6 (Value.slice DA gd.length dc).ownBlock)=>(HRZ.out.blk.below hbSb HRZ.out.blk.lt).kept (Kept.of_grown' hg) (fun hm=>blk_apart HOBb.out (HRZ.out.blk.below hbSb HRZ.out.blk.lt) (by decide) (by simpa [eq_comm] using hm)))
    have HSSb:=zzA (show ((wz.drew.alloc (.cells (Array.replicate (n+1) (.bool false)) 4)).alloc (.cells #[.slice (some ⟨wz.heap.size,0,none⟩) (n+1) (n+1)] 70)).heap.size=wz.heap.size+2 from by
     have e:((wz.drew.alloc (.cells (Array.replicate (n+1) (.bool false)) 4)).alloc (.cells #[.slice (some ⟨wz.heap.size,0,none⟩) (n+1) (n+1)] 70)).heap.size=(wz.drew.alloc (.cells (Array.replicate (n+1) (.bool false)) 4)).heap.size+1:=by simp
     rw [e,hsMb])
    have yab:wz.drew.cell? ⟨w4.heap.size+1,4,none⟩=some (.slice DA gd.length dc):=HRZ.out.blk.cell 4
    have ybb:(wz.drew.alloc (.cells (Array.replicate (n+1) (.bool false)) 4)).cell? ⟨w4.heap.size+1,4,none⟩=some (.slice DA gd.length dc):=(HRZ.out.blk.below hbMb HRZ.out.blk.lt).cell 4
    have ycb:((wz.drew.alloc (.cells (Array.replicate (n+1) (.bool false)) 4)).alloc (.cells #[.slice (some ⟨wz.heap.size,0,none⟩) (n+1) (n+1)] 70)).cell? ⟨w4.heap.size+1,4,none⟩=some (.slice DA gd.length dc):=(HRZ.out.blk.below hbSb HRZ.out.blk.lt).cell 4
    have ybbx:(wz.alloc (.cells (Array.replicate (n+1) (.bool false)) 4)).cell? ⟨w4.heap.size+1,4,none⟩=some (.slice DA gd.length dc):=ybb
    have ycbx:((wz.alloc (.cells (Array.replicate (n+1) (.bool false)) 4)).alloc (.cells #[.slice (some ⟨wz.heap.size,0,none⟩) (n+1) (n+1)] 70)).cell? ⟨w4.heap.size+1,4,none⟩=some (.slice DA gd.length dc):=ycb
    clear hbMb hsMb hbSb hnab
    go_region_law (first | (refine step_append_lies _ rfl (.tmp 75) (.tmp 80) 71 rfl (w4.heap.size+1) 70 i1 (.slice none 0 0) 1 24 Try.underlying71 hi1 hz10 hz11 hz12 rfl (by decide) (.slice DA gd.length dc) gd.length (gd.map (slB (n+1))) rfl HOBb.out ⟨wz.heap.size+1,0,none⟩ 1 1 [slB (n+1) wz.heap.size] rfl rfl HNAb.out (by intro u hu;rw [zzE] at hu;rw [hu];rfl) (by decide) (by unfold maxLen;omega) (by omega) HBSb.out _ rfl ?_;intro g2b cap2b w6b hou hg2 hat2 hlt2;have HPb:=zzA (RwS.pushD (wA:=(wz.drew.alloc (.cells (Array.replicate (n+1) (.bool false)) 4))) (wB:=((wz.drew.alloc (.cells (Array.replicate (n+1) (.bool false)) 4)).alloc (.cells #[.slice (some ⟨wz.heap.size,0,none⟩) (n+1) (n+1)] 70))) HRZ.out rfl rfl hg2 hou (hat2.imp id fun h=>Nat.le_of_eq h.symm));have HB6b:=zzA (HB6Pb.out _ hg2);have ydb:w6b.cell? ⟨w4.heap.size+1,4,none⟩=some (.slice DA gd.length dc):=HB6b.out.cell 4;have yeb:=HB6b.out.frozen 4;have yfb:=HB6b.out.lt;clear hou hg2 hat2))
    all_goals
     go_wp2_with fail
     refine ⟨⟨i+1,some ⟨g2a,0,none⟩,some ⟨g2b,0,none⟩,cap2a,cap2b,gb++[wl.heap.size],gd++[wz.heap.size],by omega,by go_num,by rw [zzG];exact congrArg (·+1) HGB.out,by rw [zzG];exact congrArg (·+1) HGD.out,?_⟩,by simp [intOf];omega⟩
     have hp:=HPb.out
     simp only [zzG,List.length_singleton] at hp ⊢
     exact hp
  ·obtain rfl:i=L4.length:=by omega
   have hlt2:¬((L4.length:Int) < (L4.length:Int)):=by omega
   have HBW:=zzA (HB4.out.trans ((HB45.out.trans (hrw.below.mono (by omega))).mono HB4.out.size))
   have hbx:=(HBL4.out.below HB45.out HBL4.out.lt).below hrw.below (by have:=HBL4.out.lt;show w.heap.size < _;omega)
   obtain ⟨xr0,xr1,xr2,xr3,xr4,xr5,xr6,xr7,xr8⟩:=bc9 (hbx)
   obtain ⟨g0,hg0⟩:∃ g0:Nat,greatest tt=(g0:Int):=⟨(greatest tt).toNat,by have:=HG0.out.1;omega⟩
   have hg5:g0≤500:=by have:=HG0.out.2;omega
   have hmki:∀ v:World,(Instr.makeSlice 26 (.int .i64 (2*(g0:Int)+2)) (.int .i64 (2*(g0:Int)+2))).run Try.prog v=.ok (.slice (some ⟨v.heap.size,0,none⟩) (2+2*g0) (2+2*g0)) (v.alloc (.cells (Array.replicate (2+2*g0) (.int .i64 0)) 3)):=fun v=>by
    have:=make_ints9 (2+2*g0) (by omega) v
    rw [show ((2+2*g0:Nat):Int)=2*(g0:Int)+2 from by omega,List.map_replicate,List.toArray_replicate] at this
    exact this
   have hw1:IntKind.i64.wrap (2*(g0:Int))=2*(g0:Int):=by rw [IntKind.wrap_i64];omega
   have hw2:IntKind.i64.wrap (2*(g0:Int)+2)=2*(g0:Int)+2:=by rw [IntKind.wrap_i64];omega
   have hgr:=HGRT.out wl HBW.out
   rw [hg0] at hgr
   have HGR:=zzA hgr
   have HGG:=zzA hg0
   clear hgr hg0 hrw hbx hz10 hz11 hz12 hi1
   go_wp2_with fail
   refine HGR.out.mono ?_
   rintro e w6 ⟨rfl,hb6⟩
   have HB6:=zzA hb6
   clear hb6 xr0 xr1 xr2 xr3 xr4 xr5 xr6 xr7 xr8 t0
   simp only []
   go_wp2_with fail
   have hblk0:Blk (w6.alloc (.cells (Array.replicate (2+2*g0) (.int .i64 0)) 3)) w6.heap.size 3 ((List.replicate 0 (-1:Int)++List.replicate (2+2*g0) 0).map (Value.int .i64)):=by
    have:=Blk.new w6 3 (List.replicate (2+2*g0) (.int .i64 0))
    rw [List.toArray_replicate] at this
    simpa using this
   have HBK0:=zzA hblk0
   have HB7:=zzA (show Below w6.heap.size w6 (w6.alloc (.cells (Array.replicate (2+2*g0) (.int .i64 0)) 3)) from (zzb _ _).alloc (zzF _) _)
   clear hblk0
   generalize (w6.alloc (.cells (Array.replicate (2+2*g0) (.int .i64 0)) 3))=w7 at *
   go_loopw [15] (fun q wr=>∃ i:Nat,i≤2+2*g0∧q=.int .i64 (i:Int)∧Below w6.heap.size w6 wr∧Blk wr w6.heap.size 3 ((List.replicate i (-1:Int)++List.replicate (2+2*g0 - i) 0).map (Value.int .i64))) (fun q _=>2+2*g0 - (intOf q).toNat)
   case atStart=>exact ⟨0,zzZ _,rfl,HB7.out,HBK0.out⟩
   case round =>
    obtain ⟨i,hi,rfl,hbw,hbc⟩:=hrel
    by_cases hlt:i < 2+2*g0
    ·have hlt2:(i:Int) < 2+2*(g0:Int):=by omega
     have g1:wr.cell? ⟨w6.heap.size,i,none⟩=some (.int .i64 0):=by
      rw [hbc.cell,zza,List.getElem?_append_right (by simp),List.length_replicate,Nat.sub_self,List.getElem?_replicate,if_pos (by omega)];rfl
     have g2:wr.frozen? ⟨w6.heap.size,i,none⟩=false:=hbc.frozen i
     have g3:=hbc.lt
     have HBWr:=zzA hbw
     have HBC:=zzA hbc
     clear hbw hbc
     go_wp2_with fail
     go_roundw
     case rel =>
      refine ⟨i+1,by omega,by go_num,Below.kept HBWr.out (Kept.setCell _ _) (by intro g hg;rw [zzE] at hg;rw [hg];exact zzF _) HBWr.out.size,?_⟩
      have:=HBC.out.set_ i (.int .i64 (-1))
      rw [←List.map_set,ones_set9 (2+2*g0) i hlt] at this
      exact this
     case measure=>simp [intOf];omega
    ·obtain rfl:i=2+2*g0:=by omega
     have hlt2:¬((2:Int)+2*(g0:Int) < 2+2*(g0:Int)):=by omega
     obtain ⟨w8,hw8⟩:∃ w8,w8=wr:=⟨_,rfl⟩
     subst hw8
     rw [Nat.sub_self,List.replicate_zero,zzY] at hbc
     obtain ⟨hcst,hst0,hstl,hfx⟩:=start6 (base:=w.heap.size) (NL:=2+2*g0) (u:=u) HTB.out (HTX.out w4 HB4.out) HB45.out HEB.out rfl rfl HRW.out (HB6.out.trans (hbw.mono HB6.out.size)) hbc HB6.out.size HB4.out.size
     have hwf:Wr.wf ⟨w.heap.size,w4.heap.size+1,w4.heap.size,w2.heap.size,A4,c4,L4,BA,DA,bc,dc,gb,gd,At,n,c,t,a0,2+2*g0,u⟩:=by
      refine ⟨fun m hm=>HBU.out.rep m (by rw [allU_one];exact hm),HBU.out.root u zzH,by have:=HBU.out.nd;rwa [allU_one] at this,⟨greatest tt,by show ((2+2*g0:Nat):Int)=_;rw [HGG.out];omega,all_ok u (by rw [HSHU.out];exact unfR_ok tt HALL.out)⟩,fun m hm hk=>((uw_sh u (by rw [HSHU.out];exact wuR tt HALL.out) m hm).1 hk).1,hfx,HGB.out,HGD.out,⟨by show 2≤2+2*g0;omega,by show 2+2*g0≤_;omega⟩,HTL.out,by show n≤64;omega,by show L4.length≤_;omega⟩
     obtain ⟨s',hone⟩:=Mean.run_ex (t:=t) (at_:=a0) (nt:=List.replicate (2+2*g0) (-1)) (pl:=a0) u (by rw [HTL.out];exact ha)
     have hdoes:=one_does6 ⟨w.heap.size,w4.heap.size+1,w4.heap.size,w2.heap.size,A4,c4,L4,BA,DA,bc,dc,gb,gd,At,n,c,t,a0,2+2*g0,u⟩ hwf hone
     have hcl:=hdoes (Mean.self_pos u .top) ha (List.length_replicate ..) w8 (some ⟨w6.heap.size,0,none⟩) (2+2*g0) hcst hst0 ⟨zzF _,by omega,by rw [zzP,List.length_replicate];show _=(2+2*g0)*1;omega,(fun h=>by cases h),fun _=>⟨w6.heap.size,0,rfl,hstl,fun j v hv=>by rw [Nat.zero_add,hbc.cell j];exact hv⟩⟩
     have hcl:Calls Try.prog 27 #[.pointer (some ⟨w4.heap.size+1,0,none⟩),.int .i64 (u.ad:Int),.int .i64 (a0:Int),.slice (some ⟨w6.heap.size,0,none⟩) (2+2*g0) (2+2*g0)] w8 _:=hcl
     have HCL:=zzA hcl
     have HONE:=zzA hone
     have HB8:=zzA (HBW.out.trans ((HB6.out.trans (hbw.mono HB6.out.size)).mono HBW.out.size))
     have HCST:=zzA hcst
     have HFX:=zzA (show ∀ b∈(w4.heap.size+1) :: w4.heap.size :: (gb++gd),w.heap.size≤b from fun b hb=>by
      have h4:=HB4.out.size
      rcases zzN.1 hb with rfl | hb
      ·omega
      rcases zzN.1 hb with rfl | hb
      ·omega
      ·have:=(HRW.out.bb b hb).1;omega)
     have HOUT:=zzA (show outB6 (w4.heap.size+1) w8=none from by
      unfold outB6
      rw [((HB6.out.trans (hbw.mono HB6.out.size)).cell (p:=⟨w4.heap.size+1,6,none⟩) HRW.out.blk.lt),show wl.cell? ⟨w4.heap.size+1,6,none⟩=some (.slice none 0 0) from HRW.out.blk.cell 6];rfl)
     clear hcl hdoes hone hwf hcst hst0 hstl hfx hbw hbc
     go_wp2_with fail
     refine HCL.out.mono ?_
     rintro e w9 ⟨rfl,hf9,hs9⟩
     obtain ⟨V,ps,hbk,ho,hps,hrd⟩:=hs9.out
     obtain ⟨A,oc,rfl⟩:=own_shape ho
     have z6:w9.cell? ⟨w4.heap.size+1,6,none⟩=some (.slice A s'.out.length oc):=hbk.cell 6
     have HPS:=zzA hps
     have HRD:=zzA hrd
     have HO:=zzA ho
     have HF9:=zzA hf9
     clear hf9 hs9 hbk ho hps hrd
     simp only []
     go_wp2_with fail
     go_ret2
     have hml:s'.out.length=ps.length:=by rw [HPS.out,zzP]
     have hgt:(greatest tt).toNat=g0:=by rw [HGG.out];rfl
     refine ⟨Below.kept HB8.out HF9.out.kept (fun k hk=>?_) HB8.out.size,.inr ⟨A,oc,s'.out.length,rfl,ps,u,s',hml,HSHU.out,by have:=HBU.out.nd;rwa [allU_one] at this,by rw [hgt];exact HONE.out,HPS.out,?_,fun p hp=>⟨(HRD.out p hp).1.reads fun b hb=>hb.1,by rw [hgt];exact (HRD.out p hp).2⟩⟩⟩
     ·rcases mem_mut6.1 hk with e | e
      ·exact HFX.out k e
      ·have e:outB6 (w4.heap.size+1) w8=some k:=e
       rw [HOUT.out] at e;cases e
     ·have:=Reads.of_own HO.out
      rw [hml] at this
      exact this
end Go.Proofs.Ytkhkllpdhnmhkaa
