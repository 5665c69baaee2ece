/- heronlaw09.ProgMeans: true. -/
import Derived.Handy
import Derived.Test.YtkhkllpdhnmhkaaP03
import Derived.Test.YtkhkllpdhnmhkaaP25
import Derived.Test.YtkhkllpdhnmhkaaP33
import Derived.Test.YtkhkllpdhnmhkaaP47
import Derived.Test.YtkhkllpdhnmhkaaP48
import Derived.Test.YtkhkllpdhnmhkaaP49
namespace Go.Proofs.Ytkhkllpdhnmhkaa
open Go.RowKit Mach Tr
theorem cmp_waysM (t:Tr.Tr):(cmpE t≠0)∨(cmpE t=0∧errV t=0):=by
 by_cases h:cmpE t=0
 ·refine .inr ⟨h,?_⟩
  unfold cmpE at h
  by_cases h2:errV t≠0
  ·rw [if_pos h2] at h;exact absurd h h2
  ·simpa using h2
 ·exact .inl h
theorem blk_readsM {w:World} {C n:Nat} {l:List Int} (h:Blk w C 3 (l.map (Value.int .i64))) (hl:l.length=n) (hn:n≤1099511627):Reads w w.heap.size 1 (some ⟨C,0,none⟩) n n (l.map (Value.int .i64)):=by
 refine ⟨zzF _,by omega,by rw [zzP];omega,fun _=>⟨C,0,rfl,h.lt,fun j u hu=>?_⟩⟩
 rw [Nat.zero_add]
 exact (h.cell j).trans hu
theorem find9_resM (p:Prg) (t:List Int) (L:List InV) (A At:Option Addr) (n c nt ct cl b:Nat) (start:Int) (w:World) (hp:ReadsP w w.heap.size A n c L) (ht:Reads w w.heap.size 1 At nt ct (t.map (Value.int .i64))) (hpi:p.insts=insL L) (hst:p.start=start) (hcp:p.caps=(cl:Int)) (hc:checkB p=true) (hnt:nt≤1000) (hb:b≤nt) :
  Calls Try.prog 10 #[.agg #[.slice A n c,.int .i64 start,.int .i64 (cl:Int)],.slice At nt ct,.int .i64 (b:Int),.bool true] w fun e w'=>∃ (ok:Bool) (XA:Option Addr) (xl:Nat) (xw:Int) (xc:List Int),
   e=.returned (.agg #[.bool ok,.slice XA xl xl,.int .i64 xw,.int .i64 0])∧Below w.heap.size w w'∧Reads w' w'.heap.size 1 XA xl xl (xc.map (Value.int .i64))∧resAt p t b=(if ok=true then some (xc,xw) else none)∧(ok=true→xl=cl∧xc.length=cl):=by
 have hcl:cl≤1002:=by have:=head_of hc;omega
 refine (find9_any p t L A At n c nt ct cl b start w hp ht hpi hst hcp hc hnt hb).mono ?_
 rintro e w' ⟨hb,⟨hf,rfl⟩ | ⟨wh,C,hf,rfl,hk,hl⟩⟩
 ·exact ⟨false,none,0,0,[],rfl,hb,Reads.none_,by unfold resAt;rw [show Mach.walkAt p t b=walkAt p t b from rfl,hf];rfl,by simp⟩
 ·exact ⟨true,some ⟨C,0,none⟩,cl,wh,(walkAt p t b).caps,rfl,hb,blk_readsM hk hl (by omega),by unfold resAt;rw [show Mach.walkAt p t b=walkAt p t b from rfl,hf];rfl,fun _=>⟨rfl,hl⟩⟩
theorem first_found {tr:Tr.Tr} {c:Int} {t:List Int} {b:Nat} {u:Mean.Un} {s':Mean.St} (hall:allB tr=true) (hcc:c.toNat=2+2*(greatest tr).toNat) (hc:checkB ⟨progL (simpleS tr),0,c⟩=true) (hb:b≤t.length) (hsu:shU u=unfR tr) (hnd:(u.all.map Mean.Un.ad).Nodup)
  (h:Mean.One t b st0 (.beg u b (List.replicate (2+2*(greatest tr).toNat) (-1)) .top) s'):resAt ⟨progL (simpleS tr),0,c⟩ t b=s'.out.head?.map fun q=>(q.2,0):=by
 rw [←hcc] at h
 obtain ⟨s2,h2⟩:=Mean.run_ex (t:=t) (at_:=b) (nt:=List.replicate c.toNat (-1)) (pl:=b) (Mean.mkV (unfS tr) 0) hb
 have hv:((Mean.mkV (unfS tr) 0).all.map Mean.Un.ad).Nodup:=by rw [Mean.mkV_ads];exact List.nodup_range'
 have e:=unfR_out hall hb hsu (Mean.mkV_sh (unfS tr) 0) hnd hv h h2
 rw [e]
 obtain ⟨M',hd⟩:=Mean.prog_done (c:=c) hall hb (Mean.mkV_sh (unfS tr) 0) hv h2
 exact res_of (p:=⟨progL (simpleS tr),0,c⟩) hc hb hd
set_option maxRecDepth 100000 in
set_option maxHeartbeats 8000000 in
theorem pm_law (k:Int) (r:List (Int × Int)) (ra:Option Addr) (rc:Nat) (ast:Int) (l:List Ta) (sa:Option Addr) (sc:Nat) (mn mx:Int) (z:Bool) (ix:Int) (nm:ByteArray) (At:Option Addr) (n c:Nat) (t:List Int) (w:World) (h:RT w (· < w.heap.size) (Ta.mk k r ra rc ast l sa sc mn mx z ix nm)) (htx:RdA w (· < w.heap.size) 1 At n c (t.map (Value.int .i64))) :
  Calls Try.prog 3 #[(Ta.mk k r ra rc ast l sa sc mn mx z ix nm).val,.slice At n c] w fun e w'=>e=.returned (.bool true)∧Below w.heap.size w w':=by
 have hb0:Below w.heap.size w (w.alloc (.cells #[.int .i64 k,.slice ra r.length rc,.int .i64 ast,.slice sa l.length sc,.int .i64 mn,.int .i64 mx,.bool z,.int .i64 ix,.string nm] 25)):=(zzb _ _).alloc (zzF _) _
 have HBL0:=zzA (Blk.new w 25 [.int .i64 k,.slice ra r.length rc,.int .i64 ast,.slice sa l.length sc,.int .i64 mn,.int .i64 mx,.bool z,.int .i64 ix,.string nm])
 have HB0:=zzA hb0
 obtain ⟨xr0,xr1,xr2,xr3,xr4,xr5,xr6,xr7,xr8⟩:=bc9 (HBL0.out)
 have htl:t.length=n:=by have:=htx.2.2.1;rw [zzP] at this;omega
 have hnc:=htx.1
 have hcm:=htx.2.1
 have hde:=fun (w':World) (hb:Below w.heap.size w w')=>deep_any (Ta.mk k r ra rc ast l sa sc mn mx z ix nm) (· < w'.heap.size) w' (rt_up6 h hb) (fun b hb=>hb)
 have hhe:=fun (w':World) (hb:Below w.heap.size w w')=>heavy_any (Ta.mk k r ra rc ast l sa sc mn mx z ix nm) (· < w'.heap.size) w' (rt_up6 h hb) (fun b hb=>hb)
 have hco:=fun (w':World) (hb:Below w.heap.size w w')=>compile_any (Ta.mk k r ra rc ast l sa sc mn mx z ix nm) (· < w'.heap.size) w' (rt_up6 h hb) (fun b hb=>hb)
 have htx2:=fun (w':World) (hb:Below w.heap.size w w')=>(htx.go (w':=w') fun b h=>hb.block b h).mono fun b h=>zzQ h hb.size
 have hpa:=fun (hn:n≤64) (hso:soundB (Ta.mk k r ra rc ast l sa sc mn mx z ix nm).tr=true) (a0:Nat) (ha:a0≤n) (w':World) (hb:Below w.heap.size w w')=>parses6_any k r ra rc ast l sa sc mn mx z ix nm At n c a0 t w' (rt_up6 h hb) (htx2 w' hb) hn ha hso
 obtain ⟨tt,htt⟩:∃ tt,tt=(Ta.mk k r ra rc ast l sa sc mn mx z ix nm).tr:=⟨_,rfl⟩
 rw [←htt] at hde hco hpa
 simp only [Ta.val,Ta.vals] at hde hhe hco hpa
 have HDE:=zzA hde
 have HHE:=zzA hhe
 have HCO:=zzA hco
 have HPA:=zzA hpa
 have HTX:=zzA htx2
 have HTL:=zzA htl
 simp only [Ta.val,Ta.vals]
 clear h htx hb0 htt hde hhe hco hpa htx2 htl
 go_enter Try.func3,Try.ntmps3
 go_wp2_with fail
 generalize (w.alloc (.cells #[.int .i64 k,.slice ra r.length rc,.int .i64 ast,.slice sa l.length sc,.int .i64 mn,.int .i64 mx,.bool z,.int .i64 ix,.string nm] 25))=w0 at *
 refine (HDE.out w0 HB0.out).mono ?_
 rintro e w1 ⟨rfl,hb1⟩
 have HB1:=zzA (HB0.out.trans (hb1.mono HB0.out.size))
 have HBL1:=zzA (HBL0.out.below hb1 HBL0.out.lt)
 obtain ⟨xs0,xs1,xs2,xs3,xs4,xs5,xs6,xs7,xs8⟩:=bc9 (HBL1.out)
 clear hb1 xr0 xr1 xr2 xr3 xr4 xr5 xr6 xr7 xr8
 generalize decide (4194304 < size tt)=deep at *
 cases deep with
 | true =>
  simp only []
  go_wp2_with fail
  go_ret
  exact ⟨rfl,HB1.out⟩
 | false =>
 simp only []
 go_wp2_with fail
 refine (HHE.out w1 HB1.out).mono ?_
 rintro e w2 ⟨⟨heavy,rfl⟩,hb2⟩
 have HB2:=zzA (HB1.out.trans (hb2.mono HB1.out.size))
 have HBL2:=zzA (HBL1.out.below hb2 HBL1.out.lt)
 obtain ⟨xr0,xr1,xr2,xr3,xr4,xr5,xr6,xr7,xr8⟩:=bc9 (HBL2.out)
 clear hb2 xs0 xs1 xs2 xs3 xs4 xs5 xs6 xs7 xs8
 cases heavy with
 | true =>
  simp only []
  go_wp2_with fail
  go_ret
  exact ⟨rfl,HB2.out⟩
 | false =>
 simp only []
 go_wp2_with fail
 refine (awake9_any w2).mono ?_
 rintro e w3 ⟨rfl,hb3⟩
 have HB3:=zzA (HB2.out.trans (hb3.mono HB2.out.size))
 have HBL3:=zzA (HBL2.out.below hb3 HBL2.out.lt)
 obtain ⟨xs0,xs1,xs2,xs3,xs4,xs5,xs6,xs7,xs8⟩:=bc9 (HBL3.out)
 clear hb3 xr0 xr1 xr2 xr3 xr4 xr5 xr6 xr7 xr8
 simp only []
 by_cases h20:¬n≤20
 ·have h20b:(20:Int) < (n:Int):=by omega
  go_wp2_with fail
  go_ret
  exact ⟨rfl,HB3.out⟩
 have h20b:¬((20:Int) < (n:Int)):=by omega
 go_wp2_with fail
 refine (HCO.out w3 HB3.out).mono ?_
 rintro e w4 ⟨⟨A,pn,pc,L,caps,rfl,hln,hra,hel,hok⟩,hb4⟩
 have HB4:=zzA (HB3.out.trans (hb4.mono HB3.out.size))
 have HBL4:=zzA (HBL3.out.below hb4 HBL3.out.lt)
 clear xs0 xs1 xs2 xs3 xs4 xs5 xs6 xs7 xs8
 have HBP:=zzA (show Below w4.heap.size w4 (w4.alloc (.cells #[.slice A pn pc,.int .i64 0,.int .i64 caps] 31)) from (zzb _ _).alloc (zzF _) _)
 have HPB:=zzA (Blk.new w4 31 [.slice A pn pc,.int .i64 0,.int .i64 caps])
 have HVP:=zzA (((readsP_of hra hel).below HBP.out).more HBP.out.size)
 have HB5:=zzA (HB4.out.trans (HBP.out.mono HB4.out.size))
 have HBL5:=zzA (HBL4.out.below HBP.out HBL4.out.lt)
 have HOK:=zzA hok
 clear hb4 hra hel hok hln
 obtain ⟨ev,hev⟩:∃ ev,ev=cmpE tt:=⟨_,rfl⟩
 rw [←hev] at HOK ⊢
 have HEV:=zzA hev
 clear hev
 simp only []
 by_cases hev0:¬ev=0
 ·have hev1:(ev==0)=false:=by simpa using hev0
  go_wp2_with fail
  go_ret
  exact ⟨rfl,HB5.out⟩
 replace hev0:=Decidable.not_not.1 hev0
 subst hev0
 obtain ⟨hins,hcaps,hl2⟩:=HOK.out rfl
 have hE:errV tt=0:=by
  rcases cmp_waysM tt with h | h
  ·exact absurd HEV.out.symm h
  ·exact h.2
 obtain ⟨-,hso⟩:=errV_zero hE
 have hall:=(sound_all hso).1
 have hgb:=grt_bd tt hall
 have hpl:(progL (simpleS tt)).length≤20000:=by rw [←hins,insL_len];exact hl2
 have hck:checkB ⟨insL L,0,caps⟩=true:=by rw [hins,hcaps];exact prog_may hall hpl
 obtain ⟨cl,hcl⟩:∃ cl:Nat,caps=(cl:Int):=⟨caps.toNat,by omega⟩
 subst hcl
 have hcl2:cl=2+2*(greatest tt).toNat:=by omega
 have HCK:=zzA hck
 have HCL:=zzA hcl2
 have HSO:=zzA hso
 have HFF:=zzA (fun (b:Nat) (hb:b≤t.length) (u:Mean.Un) (s':Mean.St) h1 h2 h3=>first_found (c:=(cl:Int)) (u:=u) (s':=s') hall (by rw [Int.toNat_natCast];exact hcl2) (by rw [←hins];exact hck) hb h1 h2 h3)
 rw [←hins] at HFF
 clear hins hcaps hl2 hE hso hall hgb hpl hck hcl2 HOK HEV
 have p0:=HPB.out.cell 0
 have p1:=HPB.out.cell 1
 have p2:=HPB.out.cell 2
 simp only [zzX,zzR] at p0 p1 p2
 go_wp2_with fail
 generalize (w4.alloc (.cells #[.slice A pn pc,.int .i64 0,.int .i64 (cl:Int)] 31))=w5 at *
 have HRC:=zzA (refCheck_any A pn pc L 0 (cl:Int) w5 HVP.out)
 rw [show chkE ⟨insL L,0,(cl:Int)⟩=0 from by unfold chkE;rw [HCK.out];rfl] at HRC
 refine HRC.out.mono ?_
 rintro e w6 ⟨rfl,hb6⟩
 have HB56:=zzA hb6
 clear hb6 HRC p0 p1 p2
 simp only []
 go_wp2_with fail
 go_loopw [11] (fun av wa=>∃ b:Nat,b≤n+1∧av=.int .i64 (b:Int)∧Below w5.heap.size w5 wa) (fun av _=>n+1 - (intOf av).toNat)
 case atStart=>exact ⟨0,zzZ _,rfl,HB56.out⟩
 case round =>
  obtain ⟨b,hb,rfl,hba⟩:=hrel
  obtain ⟨wa,hwa⟩:∃ wa,wa=wr:=⟨_,rfl⟩
  subst hwa
  have HBA:=zzA hba
  by_cases hle:b≤n
  ·have hle2:(b:Int)≤(n:Int):=by omega
   have HBWA:=zzA (HB5.out.trans (hba.mono HB5.out.size))
   have hbx:=HBL5.out.below hba HBL5.out.lt
   obtain ⟨xr0,xr1,xr2,xr3,xr4,xr5,xr6,xr7,xr8⟩:=bc9 (hbx)
   clear hba hbx
   go_wp2_with fail
   refine (HPA.out (by omega) HSO.out b hle wa HBWA.out).mono ?_
   rintro e w7 ⟨hb7,⟨-,rfl⟩ | ⟨oA,oc,m,rfl,hcame⟩⟩
   ·have HB7:=zzA (HBWA.out.trans (hb7.mono HBWA.out.size))
    clear hb7 xr0 xr1 xr2 xr3 xr4 xr5 xr6 xr7 xr8
    simp only []
    go_wp2_with fail
    go_ret
    exact ⟨rfl,HB7.out⟩
   obtain ⟨ps,u,s',rfl,hsu,hnd,hone,hps,hrps,hrcp⟩:=hcame
   have hff:=HFF.out b (by rw [HTL.out];exact hle) u s' hsu hnd hone
   rw [hps,List.head?_map,Option.map_map] at hff
   have HFR:=zzA hff
   have HB7:=zzA hb7
   have HW7:=zzA (HBA.out.trans (hb7.mono HBA.out.size))
   have HRPS:=zzA hrps
   have HRCP:=zzA hrcp
   have q0:=(HPB.out.below HW7.out HPB.out.lt).cell 0
   have q1:=(HPB.out.below HW7.out HPB.out.lt).cell 1
   have q2:=(HPB.out.below HW7.out HPB.out.lt).cell 2
   simp only [zzX,zzR] at q0 q1 q2
   clear hff hsu hnd hone hps hrps hrcp hb7 xr0 xr1 xr2 xr3 xr4 xr5 xr6 xr7 xr8
   simp only []
   go_wp2_with fail
   have hb57:=HB5.out.trans (HW7.out.mono HB5.out.size)
   refine (find9_resM ⟨insL L,0,(cl:Int)⟩ t L A At pn pc n c cl b 0 w7 ((HVP.out.below HW7.out).more HW7.out.size) ((HTX.out w7 hb57).reads fun b hb=>hb) rfl rfl rfl HCK.out (by omega) hle).mono ?_
   rintro e w8 ⟨ok,XA,xl,xw,xc,rfl,hb8,hxr,hre,hokk⟩
   have hbx:=show Below w8.heap.size w8 (w8.alloc (.cells #[.bool ok,.slice XA xl xl,.int .i64 xw,.int .i64 0] 40)) from (zzb _ _).alloc (zzF _) _
   have HX9:=zzA (Blk.new w8 40 [.bool ok,.slice XA xl xl,.int .i64 xw,.int .i64 0])
   have HXR:=zzA ((hxr.below hbx).more hbx.size)
   have HB79:=zzA (hb8.trans (hbx.mono hb8.size))
   have HB9:=zzA (HB7.out.trans (HB79.out.mono HB7.out.size))
   have hre2:=HFR.out.symm.trans hre
   have HOKK:=zzA hokk
   have x0:=HX9.out.cell 0
   have x1:=HX9.out.cell 1
   have x2:=HX9.out.cell 2
   simp only [zzX,zzR] at x0 x1 x2
   have hml:=HRPS.out.1
   clear hb8 hxr hre hokk hbx hb57 q0 q1 q2
   simp only []
   cases ps with
   | nil =>
    have hof:ok=false:=by
     cases ok with
     | false=>rfl
     | true=>simp at hre2
    subst hof
    clear hre2
    simp only [List.length_nil] at hml ⊢
    go_wp2_with fail
    exact ⟨⟨b+1,by omega,by go_num,HBA.out.trans (HB9.out.mono HBA.out.size)⟩,by simp [intOf];omega⟩
   | cons p ps =>
    cases ok with
    | false=>simp at hre2
    | true =>
    simp only [List.head?_cons,Option.map_some,Function.comp,if_true,zzd,Prod.mk.injEq] at hre2
    obtain ⟨hxc,hxw⟩:=hre2
    subst hxw
    obtain ⟨hxl,hxcl⟩:=HOKK.out rfl
    obtain ⟨xb,xo,rfl,hxb,hxq⟩:=HRPS.out.at_ (by simp)
    obtain ⟨hpr,hpl⟩:=HRCP.out p zzH
    obtain ⟨pe,pA,pcc,pL⟩:=p
    simp only [] at hxc hpr hpl
    obtain ⟨n2,hn2⟩:∃ n2,n2=pL.length:=⟨_,rfl⟩
    have hxl2:xl=n2:=by rw [hxl,hn2,hpl,HCL.out]
    subst hxl2
    rw [←hn2] at hpr
    have z1:=hxq 1 (.slice pA xl pcc) (by simp [outW6,hn2])
    have kz:(w8.alloc (.cells #[.bool true,.slice XA xl xl,.int .i64 0,.int .i64 0] 40)).cell? ⟨xb,xo+1,none⟩=some (.slice pA xl pcc):=(HB79.out.cell (p:=⟨xb,xo+1,none⟩) hxb).trans z1
    have hmp:(0:Int) < (((pe,pA,pcc,pL) :: ps).length:Int):=by simp
    have hmp2:0 < ((pe,pA,pcc,pL) :: ps).length:=by simp
    have hmp3:decide (0 < ((pe,pA,pcc,pL) :: ps).length)=true:=decide_eq_true hmp2
    have HXB:=zzA (zzQ hxb HB79.out.size)
    generalize ((pe,pA,pcc,pL) :: ps).length=mm at *
    have HSI:=zzA (sameI9_any XA pA xl xl pcc pL ((w8.alloc (.cells #[.bool true,.slice XA xl xl,.int .i64 0,.int .i64 0] 40))).drew (by rw [hxc];exact HXR.out.below (zzb _ _).drew) ((((hpr.below HB79.out).more HB79.out.size)).below (zzb _ _).drew))
    clear hxc hxcl hxq hxb hpr hpl z1 hxl hn2 HOKK HXR HRPS HRCP HFR
    go_wp2_with fail
    have kA:(w8.alloc (.cells #[.bool true,.slice XA xl xl,.int .i64 0,.int .i64 0] 40)).cell? ⟨w8.heap.size,1,none⟩=some (.slice XA xl xl)∧(w8.alloc (.cells #[.bool true,.slice XA xl xl,.int .i64 0,.int .i64 0] 40)).cell? ⟨xb,xo+1,none⟩=some (.slice pA xl pcc):=⟨x1,kz⟩
    clear x0 x1 x2 kz
    generalize (w8.alloc (.cells #[.bool true,.slice XA xl xl,.int .i64 0,.int .i64 0] 40))=w9 at *
    refine wp_region_held_drew (S:=(fun u=>u.cell? ⟨w8.heap.size,1,none⟩=some (.slice XA xl xl)∧u.cell? ⟨xb,xo+1,none⟩=some (.slice pA xl pcc))) (by kernel_rfl) kA (fun hS0=>?_)
    refine wpAnyH_take (i:=0) (oi:={ dst:=some 71,op:=Op.fieldAddr 40 (Operand.tmp 14) 1,type:=0,pos:= "law.go:297",after:=#[],guard:=none }) (v:=?_) rfl (by kernel_rfl) (by kernel_rfl) (by kernel_rfl) (fun _ _ _ h=>h) (Or.inl ⟨by rfl,?_⟩) (by assumption) ?_
    rotate_left
    ·intro w hSw;(try dsimp only at hSw);go_simp;(try with_reducible rfl)
    (try simp only [Act.put,zzB,zzD,zzC])
    refine wpAnyH_take (i:=1) (oi:={ dst:=some 72,op:=Op.load 26 (Operand.tmp 71),type:=26,pos:= "law.go:297",after:=#[{ on:=0,ground:=Ground.data }],guard:=none }) (v:=?_) rfl (by kernel_rfl) (by kernel_rfl) (by kernel_rfl) (fun _ _ _ h=>h) (Or.inl ⟨by rfl,?_⟩) (by assumption) ?_
    rotate_left
    ·intro w hSw;(try dsimp only at hSw);go_simp;(try with_reducible rfl)
    (try simp only [Act.put,zzB,zzD,zzC])
    refine wpAnyH_take (i:=2) (oi:={ dst:=some 73,op:=Op.move (Operand.tmp 12),type:=36,pos:= "law.go:297",after:=#[],guard:=none }) (v:=?_) rfl (by kernel_rfl) (by kernel_rfl) (by kernel_rfl) (fun _ _ _ h=>h) (Or.inl ⟨by rfl,?_⟩) (by assumption) ?_
    rotate_left
    ·intro w hSw;(try dsimp only at hSw);go_simp;(try with_reducible rfl)
    (try simp only [Act.put,zzB,zzD,zzC])
    refine wpAnyH_take (i:=3) (oi:={ dst:=some 74,op:=Op.indexAddr 36 (Operand.tmp 73) (Operand.const (Value.int IntKind.i64 0)),type:=0,pos:= "law.go:297",after:=#[{ on:=2,ground:=Ground.data }],guard:=none }) (v:=?_) rfl (by kernel_rfl) (by kernel_rfl) (by kernel_rfl) (fun _ _ _ h=>h) (Or.inl ⟨by rfl,?_⟩) (by assumption) ?_
    rotate_left
    ·intro w hSw;(try dsimp only at hSw);go_simp;(try with_reducible rfl)
    (try simp only [Act.put,zzB,zzD,zzC])
    refine wpAnyH_take (i:=4) (oi:={ dst:=some 75,op:=Op.fieldAddr 44 (Operand.tmp 74) 1,type:=0,pos:= "law.go:297",after:=#[{ on:=3,ground:=Ground.data }],guard:=none }) (v:=?_) rfl (by kernel_rfl) (by kernel_rfl) (by kernel_rfl) (fun _ _ _ h=>h) (Or.inl ⟨by rfl,?_⟩) (by assumption) ?_
    rotate_left
    ·intro w hSw;(try dsimp only at hSw);go_simp;(try with_reducible rfl)
    (try simp only [Act.put,zzB,zzD,zzC])
    refine wpAnyH_take (i:=5) (oi:={ dst:=some 76,op:=Op.load 26 (Operand.tmp 75),type:=26,pos:= "law.go:297",after:=#[{ on:=4,ground:=Ground.data }],guard:=none }) (v:=?_) rfl (by kernel_rfl) (by kernel_rfl) (by kernel_rfl) (fun _ _ _ h=>h) (Or.inl ⟨by rfl,?_⟩) (by assumption) ?_
    rotate_left
    ·intro w hSw;(try dsimp only at hSw);go_simp;(try with_reducible rfl)
    (try simp only [Act.put,zzB,zzD,zzC])
    refine wpAnyH_ready (rs:=[6]) (by kernel_rfl) (by simp) ?_
    refine AllReadyH.cons (o:={ dst:=some 77,op:=Op.call { callee:=Callee.value (Operand.func 11),args:=#[Operand.tmp 72,Operand.tmp 76],argTypes:=#[26,26] },type:=4,pos:= "law.go:297",after:=#[{ on:=1,ground:=Ground.data },{ on:=5,ground:=Ground.data }],guard:=none }) rfl (fun K hK=>?_) ?_
    ·skip
     refine step_call6 rfl 11 (.tmp 72) (.tmp 76) 26 26 rfl _ _ rfl rfl (enters6 Try.func11 (by kernel_rfl) (by kernel_rfl)) ?_
     refine HSI.out.mono ?_
     rintro e w10 ⟨rfl,hb10⟩
     have HB10:=zzA (((zzb _ _).drew).trans hb10)
     have kB:w10.cell? ⟨w8.heap.size,1,none⟩=some (.slice XA xl xl)∧w10.cell? ⟨xb,xo+1,none⟩=some (.slice pA xl pcc):=⟨(HX9.out.below HB10.out HX9.out.lt).cell 1,(HB10.out.cell (p:=⟨xb,xo+1,none⟩) HXB.out).trans kA.2⟩
     have k2:w10.cell? ⟨w8.heap.size,2,none⟩=some (.int .i64 0):=(HX9.out.below HB10.out HX9.out.lt).cell 2
     clear hb10
     refine ⟨_,rfl,?_⟩
     refine hK.out _ _ ?_ (fun hHeld=>?_)
     ·exact kB
     clear hK K hHeld
     (try simp only [Act.put,zzB,zzD,zzC])
     refine wpAnyH_ready (rs:=[7]) (by kernel_rfl) (by simp) ?_
     refine AllReadyH.cons (o:={ dst:=some 15,op:=Op.assign (Operand.tmp 77),type:=4,pos:= "law.go:297",after:=#[{ on:=6,ground:=Ground.data },{ on:=6,ground:=Ground.chain },{ on:=0,ground:=Ground.phase },{ on:=1,ground:=Ground.phase },{ on:=2,ground:=Ground.phase },{ on:=3,ground:=Ground.phase },{ on:=4,ground:=Ground.phase },{ on:=5,ground:=Ground.phase },{ on:=6,ground:=Ground.phase }],guard:=none }) rfl (fun K hK=>?_) ?_
     ·skip
      go_simp
      refine hK.out _ _ ?_ (fun hHeld=>?_)
      ·exact kB
      clear hK K hHeld
      (try simp only [Act.put,zzB,zzD,zzC])
      refine wpAnyH_done (by kernel_rfl) ?_ _
      go_wp2_with fail
      exact ⟨⟨b+1,by omega,by go_num,HBA.out.trans ((HB9.out.trans (HB10.out.mono HB9.out.size)).mono HBA.out.size)⟩,by simp [intOf];omega⟩
     exact AllReadyH.nil
    exact AllReadyH.nil
  ·have hle2:¬((b:Int)≤(n:Int)):=by omega
   clear hba
   go_wp2_with fail
   go_ret
   exact ⟨rfl,HB5.out.trans (HBA.out.mono HB5.out.size)⟩
end Go.Proofs.Ytkhkllpdhnmhkaa
