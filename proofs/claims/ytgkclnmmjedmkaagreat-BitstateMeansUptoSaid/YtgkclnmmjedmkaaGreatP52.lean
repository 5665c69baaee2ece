/- heronlaw12.BitstateMeans: true. -/
import Derived.Handy
import Derived.BigRegion
import Derived.Test.YtgkclnmmjedmkaaGreatP23
import Derived.Test.YtgkclnmmjedmkaaGreatP28
import Derived.Test.YtgkclnmmjedmkaaGreatP46
import Derived.Test.YtgkclnmmjedmkaaGreatP51
set_option maxRecDepth 100000
set_option maxHeartbeats 8000000
namespace Go.Proofs.YtgkclnmmjedmkaaGreat
open Go.RowKit Mach Tr
theorem RdA.readsB {w:World} {size n c:Nat} {A:Option Addr} {xs:List Value} {B:Nat} {L:List Nat} (h:RdA w (Fr B L w) size A n c xs):Reads w w.heap.size size A n c xs:=h.reads fun b hb=>hb.2.1
theorem cmp_ways12 {t:Tr.Tr} (h:cmpE t=0):errV t=0:=by
 unfold cmpE at h
 by_cases h2:errV t≠0
 ·rw [if_pos h2] at h;exact absurd h h2
 ·simpa using h2
theorem par_range {t:Tr.Tr} {n:Nat} {at_:Int} (h:parE t n at_=0):n≤64∧0≤at_∧at_≤(n:Int):=by
 have h2:=(par_parts h).2
 refine ⟨?_,h2⟩
 unfold parE at h
 split at h
 ·cases h
 ·omega
theorem par_at {t:Tr.Tr} {n:Nat} {at_:Int} (h:parE t n at_=0) {i:Nat} (hi:i≤n):parE t n (i:Int)=0:=by
 unfold parE at h ⊢
 split at h
 ·cases h
 split at h
 ·cases h
 split at h
 ·cases h
 ·rename_i a1 a2 a3
  rw [if_neg a1,if_neg a2,if_neg a3,if_neg (by omega)]
theorem run_parts (A At:Option Addr) (n c nt ct:Nat) (L:List InV) (t:List Int) (start caps at_:Int) (anch:Bool) (w:World) (hP:ReadsP w w.heap.size A n c L) (hT:Reads w w.heap.size 1 At nt ct (t.map (Value.int .i64))) :
  Calls Tryz.prog 10 #[.agg #[.slice A n c,.int .i64 start,.int .i64 caps],.slice At nt ct,.int .i64 at_,.bool anch] w fun e w'=>∃ (b:Bool) (X:Option Addr) (l:List Int) (c:Nat) (wh st er:Int),
   e=.returned (.tuple #[.agg #[.bool b,.slice X l.length c,.int .i64 wh,.int .i64 st],.int .i64 er])∧Below w.heap.size w w'∧Reads w' w'.heap.size 1 X l.length c (l.map (Value.int .i64))∧er=(runR ⟨insL L,start,caps⟩ t at_ anch).1∧(runR ⟨insL L,start,caps⟩ t at_ anch).2.1=if b=true then some (l,wh) else none:=by
 refine (run_any A At n c nt ct L t start caps at_ anch w hP hT).mono ?_
 rintro e w' ⟨cv,rfl,ho,hb⟩
 obtain ⟨X,c1,rfl⟩:=own_shape ho
 refine ⟨_,X,_,c1,_,_,_,rfl,hb,Reads.of_own ho,rfl,?_⟩
 unfold capsOf
 cases (runR ⟨insL L,start,caps⟩ t at_ anch).2.1 with
 | none=>rfl
 | some x=>rfl
def Nones (p:Prg) (t:List Int) (a i:Nat):Prop:=∀ j,a≤j→j < i→oneR p t j=none
theorem means_steps {p:Prg} {t:List Int} {a:Nat} (h:(runR p t (a:Int) false).1=0) {i:Nat} (h1:a≤i) (h2:i≤t.length) (hn:Nones p t a i):(runR p t (i:Int) true).1=0∧(runR p t (i:Int) true).2.1=oneR p t i∧(oneR p t i≠none→(runR p t (a:Int) false).2.1=oneR p t i):=by
 have hT:=told h
 have h0:=hT.one i (by rw [zyB];exact h1) h2
 refine ⟨by rw [h0],by rw [h0],fun hne=>?_⟩
 rcases hT.tells with ⟨-,e2⟩ | ⟨j,e1,e2,e3,e4,e5⟩
 ·exact absurd (e2 i (by rw [zyB];exact h1) h2) hne
 ·rw [zyB] at e3 e5
  rcases Nat.lt_trichotomy i j with h | h | h
  ·exact absurd (e5 i h1 h) hne
  ·rw [e1,h]
  ·rw [hn j e3 h] at e2;cases e2
theorem means_end {p:Prg} {t:List Int} {a:Nat} (h:(runR p t (a:Int) false).1=0) (hn:Nones p t a (t.length+1)):(runR p t (a:Int) false).2.1=none:=by
 rcases (told h).tells with ⟨e1,-⟩ | ⟨j,e1,e2,e3,e4,e5⟩
 ·exact e1
 ·rw [zyB] at e3
  rw [hn j e3 (by omega)] at e2;cases e2
theorem means_big {p:Prg} {t:List Int} {a:Nat} (hc:checkB p=true) (hl:t.length≤64) (ha:a≤t.length) (h:(runR p t (a:Int) false).1≠0):(runR p t (a:Int) false).1=3:=by
 unfold runR at h ⊢
 rw [if_neg (by omega),if_neg (by rw [hc];simp),if_neg (by omega)] at h ⊢
 split at h
 ·rename_i h3;rw [if_pos h3]
 ·exact absurd rfl h
theorem bm_law (k:Int) (r:List (Int × Int)) (ra:Option Addr) (rc:Nat) (ast:Int) (l:List Ta) (sa:Option Addr) (sc:Nat) (mn mx:Int) (z:Bool) (ix:Int) (nm:ByteArray) (At:Option Addr) (n c:Nat) (t:List Int) (at_:Int) (w:World) (h:RT w (· < w.heap.size) (Ta.mk k r ra rc ast l sa sc mn mx z ix nm)) (htx:RdA w (· < w.heap.size) 1 At n c (t.map (Value.int .i64))) :
  Calls Tryz.prog 3 #[(Ta.mk k r ra rc ast l sa sc mn mx z ix nm).val,.slice At n c,.int .i64 at_] w fun e w'=>e=.returned (.bool true)∧Below w.heap.size w w':=by
 have hb0:Below w.heap.size w (w.alloc (.cells #[.int .i64 k,.slice ra r.length rc,.int .i64 ast,.slice sa l.length sc,.int .i64 mn,.int .i64 mx,.bool z,.int .i64 ix,.string nm] 25)):=(zzb _ _).alloc (zzF _) _
 have HBL0:=zzA (zyI w 25 [.int .i64 k,.slice ra r.length rc,.int .i64 ast,.slice sa l.length sc,.int .i64 mn,.int .i64 mx,.bool z,.int .i64 ix,.string nm])
 have HB0:=zzA hb0
 obtain ⟨xr0,xr1,xr2,xr3,xr4,xr5,xr6,xr7,xr8⟩:=bc9 (HBL0.out)
 have htl:t.length=n:=by have:=htx.2.2.1;rw [zzP] at this;omega
 have hnc:=htx.1
 have hcm:=htx.2.1
 have hS0:∀ b,b < w.heap.size→b < w.heap.size:=fun b hb=>hb
 have hde:=fun (w':World) (hb:Below w.heap.size w w')=>deep_any (Ta.mk k r ra rc ast l sa sc mn mx z ix nm) (· < w'.heap.size) w' (rt_up h hS0 hb) (fun b hb=>hb)
 have hhe:=fun (w':World) (hb:Below w.heap.size w w')=>heavy_any (Ta.mk k r ra rc ast l sa sc mn mx z ix nm) (· < w'.heap.size) w' (rt_up h hS0 hb) (fun b hb=>hb)
 have hmu:=fun (w':World) (hb:Below w.heap.size w w')=>much_any k r ra rc ast l sa sc mn mx z ix nm (· < w'.heap.size) At n c w' (rt_up h hS0 hb) (fun b hb=>hb) hnc hcm
 have hco:=fun (w':World) (hb:Below w.heap.size w w')=>compile_any (Ta.mk k r ra rc ast l sa sc mn mx z ix nm) (· < w'.heap.size) w' (rt_up h hS0 hb) (fun b hb=>hb)
 have hpa:=fun (x:Int) (w':World) (hb:Below w.heap.size w w')=>parses_all (Ta.mk k r ra rc ast l sa sc mn mx z ix nm) (· < w'.heap.size) At n c x t w' (rt_up h hS0 hb) (fun b hb=>hb) hnc (rd_up htx hS0 hb)
 have htx2:=fun (w':World) (hb:Below w.heap.size w w')=>(rd_up htx hS0 hb).reads fun b hb=>hb
 obtain ⟨tt,htt⟩:∃ tt,tt=(Ta.mk k r ra rc ast l sa sc mn mx z ix nm).tr:=⟨_,rfl⟩
 rw [←htt] at hde hco hpa
 simp only [Ta.val,Ta.vals] at hde hhe hmu hco hpa
 have HDE:=zzA hde
 have HHE:=zzA hhe
 have HMU:=zzA hmu
 have HCO:=zzA hco
 have HPA:=zzA hpa
 have HTX:=zzA htx2
 have HTL:=zzA htl
 simp only [Ta.val,Ta.vals]
 clear h htx hS0 hb0 htt hde hhe hmu hco hpa htx2 htl
 go_enter Tryz.func3,Tryz.ntmps3
 go_wp2_with fail
 generalize (w.alloc (.cells #[.int .i64 k,.slice ra r.length rc,.int .i64 ast,.slice sa l.length sc,.int .i64 mn,.int .i64 mx,.bool z,.int .i64 ix,.string nm] 25))=w0 at *
 refine (HDE.out w0 HB0.out).mono ?_
 rintro e w1 ⟨rfl,hb1⟩
 have HB1:=zzA (HB0.out.trans (hb1.mono HB0.out.size))
 have HBL1:=zzA (HBL0.out.below hb1 HBL0.out.lt)
 obtain ⟨xs0,xs1,xs2,xs3,xs4,xs5,xs6,xs7,xs8⟩:=bc9 (HBL1.out)
 clear hb1 xr0 xr1 xr2 xr3 xr4 xr5 xr6 xr7 xr8
 generalize decide (4194304 < size tt)=deep at *
 cases deep with
 | true =>
  simp only []
  go_wp2_with fail
  go_ret
  exact ⟨rfl,HB1.out⟩
 | false =>
 simp only []
 go_wp2_with fail
 refine (HHE.out w1 HB1.out).mono ?_
 rintro e w2 ⟨⟨heavy,rfl⟩,hb2⟩
 have HB2:=zzA (HB1.out.trans (hb2.mono HB1.out.size))
 have HBL2:=zzA (HBL1.out.below hb2 HBL1.out.lt)
 obtain ⟨xr0,xr1,xr2,xr3,xr4,xr5,xr6,xr7,xr8⟩:=bc9 (HBL2.out)
 clear hb2 xs0 xs1 xs2 xs3 xs4 xs5 xs6 xs7 xs8
 cases heavy with
 | true =>
  simp only []
  go_wp2_with fail
  go_ret
  exact ⟨rfl,HB2.out⟩
 | false =>
 simp only []
 go_wp2_with fail
 refine (HMU.out w2 HB2.out).mono ?_
 rintro e w3 ⟨⟨much,rfl⟩,hb3⟩
 have HB3:=zzA (HB2.out.trans (hb3.mono HB2.out.size))
 have HBL3:=zzA (HBL2.out.below hb3 HBL2.out.lt)
 obtain ⟨xs0,xs1,xs2,xs3,xs4,xs5,xs6,xs7,xs8⟩:=bc9 (HBL3.out)
 clear hb3 xr0 xr1 xr2 xr3 xr4 xr5 xr6 xr7 xr8
 cases much with
 | true =>
  simp only []
  go_wp2_with fail
  go_ret
  exact ⟨rfl,HB3.out⟩
 | false =>
 simp only []
 go_wp2_with fail
 refine (awake12_any w3).mono ?_
 rintro e w4 ⟨rfl,hb4⟩
 have HB4:=zzA (HB3.out.trans (hb4.mono HB3.out.size))
 have HBL4:=zzA (HBL3.out.below hb4 HBL3.out.lt)
 obtain ⟨xr0,xr1,xr2,xr3,xr4,xr5,xr6,xr7,xr8⟩:=bc9 (HBL4.out)
 clear hb4 xs0 xs1 xs2 xs3 xs4 xs5 xs6 xs7 xs8
 simp only []
 go_wp2_with fail
 refine (HCO.out w4 HB4.out).mono ?_
 rintro e w5 ⟨⟨A,pn,pc,L,caps,rfl,hln,hra,hel,hok⟩,hb5⟩
 have HB5:=zzA (HB4.out.trans (hb5.mono HB4.out.size))
 have HBL5:=zzA (HBL4.out.below hb5 HBL4.out.lt)
 clear xr0 xr1 xr2 xr3 xr4 xr5 xr6 xr7 xr8
 have HBP:=zzA (show Below w5.heap.size w5 (w5.alloc (.cells #[.slice A pn pc,.int .i64 0,.int .i64 caps] 32)) from (zzb _ _).alloc (zzF _) _)
 have HPB:=zzA (zyI w5 32 [.slice A pn pc,.int .i64 0,.int .i64 caps])
 have HVP:=zzA (((show ReadsP w5 w5.heap.size A pn pc L from ⟨RdA.readsB hra,fun u hu=>⟨RdA.readsB (hel u hu),(hel u hu).2.2.2.1⟩⟩).below HBP.out).more HBP.out.size)
 have HB6:=zzA (HB5.out.trans (HBP.out.mono HB5.out.size))
 have HBL6:=zzA (HBL5.out.below HBP.out HBL5.out.lt)
 obtain ⟨xs0,xs1,xs2,xs3,xs4,xs5,xs6,xs7,xs8⟩:=bc9 (HBL6.out)
 have HOK:=zzA hok
 clear hb5 hra hel hok hln
 simp only []
 go_wp2_with fail
 generalize (w5.alloc (.cells #[.slice A pn pc,.int .i64 0,.int .i64 caps] 32))=w6 at *
 refine (HPA.out at_ w6 HB6.out).mono ?_
 rintro e w7 ⟨A0,m0,o0,rfl,hb7,-⟩
 have HB67:=zzA hb7
 have HB7:=zzA (HB6.out.trans (hb7.mono HB6.out.size))
 clear hb7 xs0 xs1 xs2 xs3 xs4 xs5 xs6 xs7 xs8
 obtain ⟨ev,hev⟩:∃ ev,ev=cmpE tt:=⟨_,rfl⟩
 rw [←hev] at HOK ⊢
 have HEV:=zzA hev
 clear hev
 obtain ⟨ep,hep⟩:∃ ep,ep=parE tt n at_:=⟨_,rfl⟩
 rw [←hep]
 have HEP:=zzA hep
 clear hep
 simp only []
 by_cases hev0:¬ev=0
 ·have hev1:(ev==0)=false:=by simpa using hev0
  go_wp2_with fail
  go_ret
  exact ⟨rfl,HB7.out⟩
 replace hev0:=Decidable.not_not.1 hev0
 subst hev0
 by_cases hep0:¬ep=0
 ·have hep1:(ep==0)=false:=by simpa using hep0
  go_wp2_with fail
  go_ret
  exact ⟨rfl,HB7.out⟩
 replace hep0:=Decidable.not_not.1 hep0
 subst hep0
 obtain ⟨hins,hcaps,hl2⟩:=HOK.out rfl
 obtain ⟨-,hso⟩:=errV_zero (cmp_ways12 HEV.out.symm)
 have hall:=(sound_all hso).1
 have hgb:=grt_bd tt hall
 have hpl:(progL (simpleS tt)).length≤20000:=by rw [←hins,insL_len];exact hl2
 have hck:checkB ⟨insL L,0,caps⟩=true:=by rw [hins,hcaps];exact prog_may hall hpl
 have hrg:=par_range HEP.out.symm
 obtain ⟨a0,rfl⟩:∃ a0:Nat,at_=(a0:Int):=⟨at_.toNat,by omega⟩
 have ha0:a0≤n:=by omega
 have hn64:n≤64:=hrg.1
 have HPZ:=zzA (fun (i:Nat) (hi:i≤n)=>par_at HEP.out.symm hi)
 have HFF:=zzA (fun (b:Nat) (hb:b≤t.length) (ps:List (Nat × Option Addr × Nat × List Int)) (hp:PsOf t b tt ps)=>(show oneR ⟨insL L,0,caps⟩ t b=ps.head?.map fun q=>(q.2.2.2,0) from by
  obtain ⟨u,s',p1,p2,p3,p4,-⟩:=hp
  have e:=Mean.prog_means (c:=caps) hall (by rw [←hins];exact hck) hb p1 p2 (by rw [show caps.toNat=2+2*(greatest tt).toNat by omega];exact p3)
  rw [hins,e,p4,List.head?_map,Option.map_map];rfl))
 have HCK:=zzA hck
 clear hins hcaps hl2 hso hall hgb hpl hck hrg HOK HEV HEP
 obtain ⟨PP,hPP⟩:∃ PP:Prg,PP=⟨insL L,0,caps⟩:=⟨_,rfl⟩
 have HPP:=zzA hPP
 rw [←hPP] at HFF HCK
 clear hPP
 obtain ⟨q0,q1,q2⟩:=bc3 ((HPB.out.below HB67.out HPB.out.lt))
 go_wp2_with fail
 have hHR:=run_parts A At pn pc n c L t 0 caps (a0:Int) false w7 ((HVP.out.below HB67.out).more HB67.out.size) (HTX.out w7 HB7.out)
 rw [←HPP.out] at hHR
 refine hHR.mono ?_
 clear hHR q0 q1 q2
 rintro e w8 ⟨fo,X1,l1,c1,wh1,st1,er,rfl,hb8,hx1,hee,hfo⟩
 have HB69:=zzA (HB67.out.trans ((hb8.trans (((zzb _ _).alloc (zzF _) _:Below w8.heap.size w8 (w8.alloc (.cells #[.bool fo,.slice X1 l1.length c1,.int .i64 wh1,.int .i64 st1] 40))).mono hb8.size)).mono HB67.out.size))
 have HF9:=zzA (zyI w8 40 [.bool fo,.slice X1 l1.length c1,.int .i64 wh1,.int .i64 st1])
 have HX1:=zzA ((hx1.below ((zzb _ _).alloc (zzF _) _:Below w8.heap.size w8 (w8.alloc (.cells #[.bool fo,.slice X1 l1.length c1,.int .i64 wh1,.int .i64 st1] 40)))).more ((zzb _ _).alloc (zzF _) _:Below w8.heap.size w8 (w8.alloc (.cells #[.bool fo,.slice X1 l1.length c1,.int .i64 wh1,.int .i64 st1] 40))).size)
 have HEE:=zzA hee
 have HFO:=zzA hfo
 clear hb8 hx1 hee hfo
 have HB9:=zzA (HB6.out.trans (HB69.out.mono HB6.out.size))
 simp only []
 by_cases her:¬er=0
 ·have her1:(er==0)=false:=by simpa using her
  have her3:er=3:=by
   rw [HEE.out]
   refine means_big HCK.out (by rw [HTL.out];exact hn64) (by rw [HTL.out];exact ha0) ?_
   rw [←HEE.out];exact her
  clear her
  subst her3
  go_wp2_with fail
  go_ret
  exact ⟨rfl,HB9.out⟩
 replace her:=Decidable.not_not.1 her
 subst her
 go_wp2_with fail
 generalize (w8.alloc (.cells #[.bool fo,.slice X1 l1.length c1,.int .i64 wh1,.int .i64 st1] 40))=w9 at *
 go_loopw [17] (fun iv W=>∃ i:Nat,a0≤i∧i≤n+1∧iv=.int .i64 (i:Int)∧Nones PP t a0 i∧Below w9.heap.size w9 W) (fun iv _=>n+1 - (intOf iv).toNat)
 case atStart=>exact ⟨a0,zzF _,by omega,rfl,fun j h1 h2=>absurd h1 (by omega),zzb _ _⟩
 case round =>
  obtain ⟨i,hi0,hi1,rfl,hno,hbw⟩:=hrel
  have HNO:=zzA hno
  have HB9r:=zzA hbw
  have HB6r:=zzA (HB69.out.trans (hbw.mono HB69.out.size))
  have HBr:=zzA (HB6.out.trans (HB6r.out.mono HB6.out.size))
  clear hno hbw
  by_cases hle:i≤n
  ·have hle2:(i:Int)≤(n:Int):=by omega
   have hle3:i≤t.length:=by rw [HTL.out];exact hle
   have HMS:=zzA (means_steps HEE.out.symm hi0 hle3 HNO.out)
   clear hle3
   have hbx:=HBL6.out.below HB6r.out HBL6.out.lt
   obtain ⟨xr0,xr1,xr2,xr3,xr4,xr5,xr6,xr7,xr8⟩:=bc9 (hbx)
   clear hbx
   go_wp2_with fail
   refine (HPA.out (i:Int) wr HBr.out).mono ?_
   rintro e w10 ⟨A1,m1,o1,rfl,hb10,hl1⟩
   rw [HPZ.out i hle]
   obtain ⟨a1,ps,ha1,rfl,hps,hrps,hrcp⟩:=hl1 (HPZ.out i hle)
   obtain rfl:i=a1:=by omega
   have hff:=HFF.out i (by rw [HTL.out];exact hle) ps hps
   have HFI:=zzA hff
   have HRPS:=zzA hrps
   have HRCP:=zzA hrcp
   have HB6x:=zzA (HB6r.out.trans (hb10.mono HB6r.out.size))
   have HB9x:=zzA (HB9r.out.trans (hb10.mono HB9r.out.size))
   have HBx:=zzA (HB6.out.trans (HB6x.out.mono HB6.out.size))
   clear hl1 ha1 hff hps hrps hrcp hb10 xr0 xr1 xr2 xr3 xr4 xr5 xr6 xr7 xr8
   obtain ⟨q0,q1,q2⟩:=bc3 ((HPB.out.below HB6x.out HPB.out.lt))
   simp only []
   go_wp2_with fail
   have hHR:=run_parts A At pn pc n c L t 0 caps (i:Int) true w10 ((HVP.out.below HB6x.out).more HB6x.out.size) (HTX.out w10 HBx.out)
   rw [←HPP.out,HMS.out.1,HMS.out.2.1,HFI.out] at hHR
   refine hHR.mono ?_
   clear hHR q0 q1 q2
   rintro e w11 ⟨ok,X2,l2,c2,wh2,st2,er2,rfl,hb11,hx2,rfl,hok⟩
   have hby:=show Below w11.heap.size w11 (w11.alloc (.cells #[.bool ok,.slice X2 l2.length c2,.int .i64 wh2,.int .i64 st2] 40)) from (zzb _ _).alloc (zzF _) _
   have HB10x:=zzA (hb11.trans (hby.mono hb11.size))
   have HG:=zzA (zyI w11 40 [.bool ok,.slice X2 l2.length c2,.int .i64 wh2,.int .i64 st2])
   have HX2:=zzA ((hx2.below hby).more hby.size)
   have HB9y:=zzA (HB9x.out.trans (HB10x.out.mono HB9x.out.size))
   have HOKK:=zzA hok
   have g0:(w11.alloc (.cells #[.bool ok,.slice X2 l2.length c2,.int .i64 wh2,.int .i64 st2] 40)).cell? ⟨w11.heap.size,0,none⟩=some (.bool ok):=HG.out.cell 0
   have g1:(w11.alloc (.cells #[.bool ok,.slice X2 l2.length c2,.int .i64 wh2,.int .i64 st2] 40)).cell? ⟨w11.heap.size,1,none⟩=some (.slice X2 l2.length c2):=HG.out.cell 1
   have g2:(w11.alloc (.cells #[.bool ok,.slice X2 l2.length c2,.int .i64 wh2,.int .i64 st2] 40)).cell? ⟨w11.heap.size,2,none⟩=some (.int .i64 wh2):=HG.out.cell 2
   have g3:(w11.alloc (.cells #[.bool ok,.slice X2 l2.length c2,.int .i64 wh2,.int .i64 st2] 40)).cell? ⟨w11.heap.size,3,none⟩=some (.int .i64 st2):=HG.out.cell 3
   clear hb11 hx2 hok hby
   have HML:=zzA HRPS.out.1
   cases ps with
   | nil =>
    have hof:ok=false:=by
     have:=HOKK.out
     cases ok with
     | false=>rfl
     | true=>simp at this
    subst hof
    simp only [List.length_nil]
    go_wp2_with fail
    refine ⟨⟨i+1,by omega,by omega,by go_num,fun j h1 h2=>?_,HB9y.out⟩,by simp [intOf];omega⟩
    rcases Nat.lt_or_ge j i with h | h
    ·exact HNO.out j h1 h
    ·obtain rfl:j=i:=by omega
     exact HFI.out
   | cons p ps =>
    have hot:ok=true∧(l2,wh2)=(p.2.2.2,0):=by
     have:=HOKK.out
     cases ok with
     | false=>simp at this
     | true=>simpa using this.symm
    obtain ⟨rfl,hlw⟩:=hot
    obtain ⟨rfl,rfl⟩:=Prod.mk.inj hlw
    clear hlw HOKK
    have hfo:=HFO.out.symm.trans (HMS.out.2.2 (by rw [HFI.out];simp))
    rw [HFI.out] at hfo
    have hfo2:fo=true∧(l1,wh1)=(p.2.2.2,0):=by
     cases fo with
     | false=>simp at hfo
     | true=>simpa using hfo
    obtain ⟨rfl,hlw⟩:=hfo2
    obtain ⟨rfl,rfl⟩:=Prod.mk.inj hlw
    clear hlw hfo HFO HMS HFI
    obtain ⟨xb,xo,rfl,hxb,hxq⟩:=HRPS.out.at_ (by simp)
    have hpr:=HRCP.out p zzH
    obtain ⟨pe,pA,pcc,pL⟩:=p
    simp only [] at hpr hxq ⊢
    obtain ⟨n2,hn2⟩:∃ n2,n2=pL.length:=⟨_,rfl⟩
    have z1:=hxq 1 (.slice pA n2 pcc) (by simp [outW,hn2])
    have kz:(w11.alloc (.cells #[.bool true,.slice X2 pL.length c2,.int .i64 0,.int .i64 st2] 40)).cell? ⟨xb,xo+1,none⟩=some (.slice pA n2 pcc):=(HB10x.out.cell (p:=⟨xb,xo+1,none⟩) hxb).trans z1
    have hmp:(0:Int) < (((pe,pA,pcc,pL) :: ps).length:Int):=by simp
    have hmp2:0 < ((pe,pA,pcc,pL) :: ps).length:=by simp
    have hmp3:decide (0 < ((pe,pA,pcc,pL) :: ps).length)=true:=decide_eq_true hmp2
    generalize ((pe,pA,pcc,pL) :: ps).length=mm at *
    have HPR:=zzA ((hpr.below HB10x.out).more HB10x.out.size)
    subst hn2
    clear hxq hxb hpr z1 HRPS HRCP HML
    go_wp2_with fail
    have hbz:=show Below (w11.alloc (.cells #[.bool true,.slice X2 pL.length c2,.int .i64 0,.int .i64 st2] 40)).heap.size (w11.alloc (.cells #[.bool true,.slice X2 pL.length c2,.int .i64 0,.int .i64 st2] 40)) ((w11.alloc (.cells #[.bool true,.slice X2 pL.length c2,.int .i64 0,.int .i64 st2] 40)).alloc (.cells #[.bool true,.slice pA pL.length pcc,.int .i64 0,.int .i64 0] 40)) from (zzb _ _).alloc (zzF _) _
    have HPR2:=zzA ((HPR.out.below hbz).more hbz.size)
    have HX22:=zzA ((HX2.out.below hbz).more hbz.size)
    have HB9z:=zzA (HB9y.out.trans (hbz.mono HB9y.out.size))
    have HX12:=zzA ((HX1.out.below HB9z.out).more HB9z.out.size)
    have HZ:=zzA (zyI (w11.alloc (.cells #[.bool true,.slice X2 pL.length c2,.int .i64 0,.int .i64 st2] 40)) 40 [.bool true,.slice pA pL.length pcc,.int .i64 0,.int .i64 0])
    have hfz:=HF9.out.below HB9z.out HF9.out.lt
    have f0:((w11.alloc (.cells #[.bool true,.slice X2 pL.length c2,.int .i64 0,.int .i64 st2] 40)).alloc (.cells #[.bool true,.slice pA pL.length pcc,.int .i64 0,.int .i64 0] 40)).cell? ⟨w8.heap.size,0,none⟩=some (.bool true):=hfz.cell 0
    have f1:((w11.alloc (.cells #[.bool true,.slice X2 pL.length c2,.int .i64 0,.int .i64 st2] 40)).alloc (.cells #[.bool true,.slice pA pL.length pcc,.int .i64 0,.int .i64 0] 40)).cell? ⟨w8.heap.size,1,none⟩=some (.slice X1 pL.length c1):=hfz.cell 1
    have f2:((w11.alloc (.cells #[.bool true,.slice X2 pL.length c2,.int .i64 0,.int .i64 st2] 40)).alloc (.cells #[.bool true,.slice pA pL.length pcc,.int .i64 0,.int .i64 0] 40)).cell? ⟨w8.heap.size,2,none⟩=some (.int .i64 0):=hfz.cell 2
    have f3:((w11.alloc (.cells #[.bool true,.slice X2 pL.length c2,.int .i64 0,.int .i64 st2] 40)).alloc (.cells #[.bool true,.slice pA pL.length pcc,.int .i64 0,.int .i64 0] 40)).cell? ⟨w8.heap.size,3,none⟩=some (.int .i64 st1):=hfz.cell 3
    have HFZ:=zzA hfz
    clear hfz hbz g0 g1 g2 g3
    generalize ((w11.alloc (.cells #[.bool true,.slice X2 pL.length c2,.int .i64 0,.int .i64 st2] 40)).alloc (.cells #[.bool true,.slice pA pL.length pcc,.int .i64 0,.int .i64 0] 40))=w12 at *
    refine (sameFind_any true 0 0 st2 pL pA X2 pL.length pcc c2 w12 HPR2.out HX22.out).mono ?_
    rintro e w13 ⟨rfl,hb13⟩
    have HPR3:=zzA ((HPR2.out.below hb13).more hb13.size)
    have HX13:=zzA ((HX12.out.below hb13).more hb13.size)
    have HB13:=zzA (HB9z.out.trans (hb13.mono HB9z.out.size))
    have hfz:=HFZ.out.below hb13 HFZ.out.lt
    have h0:w13.cell? ⟨w8.heap.size,0,none⟩=some (.bool true):=hfz.cell 0
    have h1:w13.cell? ⟨w8.heap.size,1,none⟩=some (.slice X1 pL.length c1):=hfz.cell 1
    have h2:w13.cell? ⟨w8.heap.size,2,none⟩=some (.int .i64 0):=hfz.cell 2
    have h3:w13.cell? ⟨w8.heap.size,3,none⟩=some (.int .i64 st1):=hfz.cell 3
    have hzz:=HZ.out.below hb13 HZ.out.lt
    simp only [World.size_alloc] at hzz
    have j0:w13.cell? ⟨(w11.heap.size+1),0,none⟩=some (.bool true):=hzz.cell 0
    have j1:w13.cell? ⟨(w11.heap.size+1),1,none⟩=some (.slice pA pL.length pcc):=hzz.cell 1
    have j2:w13.cell? ⟨(w11.heap.size+1),2,none⟩=some (.int .i64 0):=hzz.cell 2
    have j3:w13.cell? ⟨(w11.heap.size+1),3,none⟩=some (.int .i64 0):=hzz.cell 3
    clear hfz hzz hb13 f0 f1 f2 f3
    simp only []
    go_wp2_with fail
    refine (sameFind_any true 0 0 st1 pL pA X1 pL.length pcc c1 w13 HPR3.out HX13.out).mono ?_
    rintro e w14 ⟨rfl,hb14⟩
    have HB14:=zzA (HB9.out.trans ((HB13.out.trans (hb14.mono HB13.out.size)).mono HB9.out.size))
    clear hb14
    simp only []
    go_wp2_with fail
    go_ret
    exact ⟨rfl,HB14.out⟩
  ·have hle2:¬((i:Int)≤(n:Int)):=by omega
   obtain rfl:i=n+1:=by omega
   have hfo:fo=false:=by
    have h1:=HFO.out
    rw [means_end HEE.out.symm (by rw [HTL.out];exact HNO.out)] at h1
    cases fo with
    | false=>rfl
    | true=>simp at h1
   subst hfo
   have f0:wr.cell? ⟨w8.heap.size,0,none⟩=some (.bool false):=(HF9.out.below HB9r.out HF9.out.lt).cell 0
   have f1:wr.cell? ⟨w8.heap.size,1,none⟩=some (.slice X1 l1.length c1):=(HF9.out.below HB9r.out HF9.out.lt).cell 1
   have f2:wr.cell? ⟨w8.heap.size,2,none⟩=some (.int .i64 wh1):=(HF9.out.below HB9r.out HF9.out.lt).cell 2
   have f3:wr.cell? ⟨w8.heap.size,3,none⟩=some (.int .i64 st1):=(HF9.out.below HB9r.out HF9.out.lt).cell 3
   go_wp2_with fail
   go_ret
   exact ⟨rfl,HBr.out⟩
end Go.Proofs.YtgkclnmmjedmkaaGreat
