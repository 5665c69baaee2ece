/- heronref01: Right. -/
import Derived.Test.YtgkclnmmjedmkaaGreatP13
set_option maxRecDepth 100000
set_option maxHeartbeats 4000000
namespace Go.Proofs.YtgkclnmmjedmkaaGreat
open Go.RowKit
theorem refDomain_any (r:Int) (w:World) :
  Calls Tryz.prog 107 #[.int .i64 r] w fun e w'=>e=.returned (.bool (dom r))∧w=w':=by
 go_enter Tryz.func107,Tryz.ntmps107
 go_wp2
 all_goals go_ret
 all_goals exact ⟨ret_bool (by unfold dom;rw [Bool.eq_iff_iff];simp;omega),rfl⟩
theorem refRight_any (A:Option Addr) (n c B:Nat) (l:List (Int × Int)) (w:World) (hr:Reads w B 2 A n c (flat l)) :
  Calls Tryz.prog 98 #[.slice A n c] w fun e w'=>e=.returned (.bool (rightB l))∧∃ m,w.drewN m=w':=by
 have hlen:l.length=n:=by have:=hr.len;rw [flat_length] at this;omega
 have HLEN:=zzA hlen
 have hnc:=hr.le
 have hcap:=hr.cap
 have HR:=zzA hr
 clear hlen hr
 by_cases hbig:5000 < n
 ·have HF:=zzA (show rightB l=false from by unfold rightB;rw [decide_eq_false (by have:=HLEN.out;omega)];rfl)
  go_enter Tryz.func98,Tryz.ntmps98
  go_wp2_with fail
  go_ret
  exact ⟨ret_bool HF.out.symm,0,rfl⟩
 have hn5:n≤5000:=by omega
 go_enter Tryz.func98,Tryz.ntmps98
 go_wp2_with fail
 go_loopw [3] (fun p wr=>∃ i:Nat,i≤n∧p=.int .i64 i∧(∀ j,j < i→okAt l j=true)∧∃ m,w.drewN m=wr) (fun p _=>n - (intOf p).toNat)
 case atStart=>exact ⟨0,zzZ _,rfl,fun j hj=>absurd hj (by omega),0,rfl⟩
 case round =>
  obtain ⟨i,hi1,rfl,hok,m,rfl⟩:=hrel
  have HOK:=zzA hok
  clear hok
  by_cases hlt:i < n
  ·obtain ⟨x,hx⟩:∃ x,l[i]?=some x:=⟨_,zzJ (by have:=HLEN.out;omega)⟩
   obtain ⟨b,off,rfl,hb,hcell⟩:=HR.out.at_ (by omega)
   have hc1:w.cell? ⟨b,off+i*2,none⟩=some (.int .i64 x.1):=hcell _ _ (flat_get l i x hx).1
   have hc2:w.cell? ⟨b,off+i*2+1,none⟩=some (.int .i64 x.2):=by rw [zzy];exact hcell _ _ (flat_get l i x hx).2
   have HX:=zzA hx
   have HC:=zzA hcell
   obtain ⟨x1,x2⟩:=x
   have HNO:=zzA (show okAt l i=false→rightB l=false from fun h=>cls_no (by have:=HLEN.out;omega) h)
   have HBAD:=zzA (show okx (x1,x2)=false→rightB l=false from fun h=>HNO.out (by unfold okAt;rw [HX.out];simp [h]))
   clear hcell hx
   cases hd1:dom x1 with
   | false =>
    have HF:=zzA (HBAD.out (by simp [okx,hd1]))
    go_wp2_with (go_at_call 107;refine (refDomain_any _ _).mono ?_;rintro e w' ⟨rfl,rfl⟩;first | rw [hd1] | skip)
    go_quiet (fail)
    go_wp2_with fail
    go_ret
    exact ⟨ret_bool HF.out.symm,m+nq,by first | rfl | rw [World.drewN_drewN]⟩
   | true =>
   cases hd2:dom x2 with
   | false =>
    have HF:=zzA (HBAD.out (by simp [okx,hd2]))
    go_wp2_with (go_at_call 107;refine (refDomain_any _ _).mono ?_;rintro e w' ⟨rfl,rfl⟩;first | rw [hd1] | rw [hd2])
    go_quiet (fail)
    go_wp2_with fail
    go_ret
    exact ⟨ret_bool HF.out.symm,m+nq,by first | rfl | rw [World.drewN_drewN]⟩
   | true =>
   have hx0:0≤x1∧x1≤1114111:=by simp only [dom,zzg] at hd1;omega
   have hx3:0≤x2∧x2≤1114111:=by simp only [dom,zzg] at hd2;omega
   obtain ⟨hx0,hx1⟩:=hx0
   obtain ⟨hx2,hx3⟩:=hx3
   by_cases g1:x2 < x1
   ·have HF:=zzA (HBAD.out (by simp [okx];omega))
    have hA:decide (x2 < x1)=true:=decide_eq_true g1
    go_wp2_with (go_at_call 107;refine (refDomain_any _ _).mono ?_;rintro e w' ⟨rfl,rfl⟩;first | rw [hd1] | rw [hd2])
    go_quiet (fail)
    go_wp2_with fail
    go_ret
    exact ⟨ret_bool HF.out.symm,m+nq,by first | rfl | rw [World.drewN_drewN]⟩
   have hA:decide (x2 < x1)=false:=decide_eq_false g1
   by_cases g2:x1≤55295∧57344≤x2
   ·obtain ⟨g2,g3⟩:=g2
    have HF:=zzA (HBAD.out (by simp [okx];omega))
    have hB:decide (x1≤55295)=true:=decide_eq_true g2
    have hC:decide (57344≤x2)=true:=decide_eq_true g3
    go_wp2_with (go_at_call 107;refine (refDomain_any _ _).mono ?_;rintro e w' ⟨rfl,rfl⟩;first | rw [hd1] | rw [hd2])
    go_quiet (fail)
    go_wp2_with fail
    go_ret
    exact ⟨ret_bool HF.out.symm,m+nq,by first | rfl | rw [World.drewN_drewN]⟩
   have HOX:=zzA (show okx (x1,x2)=true from by
    simp only [dom,zzg] at hd1 hd2
    simp [okx,dom];omega)
   have hd1':=hd1
   rcases Nat.eq_zero_or_pos i with h0 | h0
   ·subst h0
    rw [Nat.zero_mul,Nat.add_zero] at hc1 hc2
    have HAT:=zzA (show okAt l 0=true from by unfold okAt;rw [HX.out];simp [HOX.out])
    have hd0:decide ((0:Int) < ((0:Nat):Int))=false:=rfl
    have hd0':decide ((0:Int) < 0)=false:=rfl
    by_cases g3:x1≤55295
    case' pos=>have hB:decide (x1≤55295)=true:=decide_eq_true g3;have hC:decide (57344≤x2)=false:=decide_eq_false (by omega)
    case' neg=>have hB:decide (x1≤55295)=false:=decide_eq_false g3
    all_goals
     go_wp2_with (go_at_call 107;refine (refDomain_any _ _).mono ?_;rintro e w' ⟨rfl,rfl⟩;first | rw [hd1] | rw [hd2])
     go_quiet (fail)
     rw [World.drewN_drewN]
     obtain ⟨q0,hq0⟩:∃ q,q=m+nq:=⟨_,rfl⟩
     rw [←hq0]
     clear hq0
     go_wp2_with fail
     go_quiet (fail)
     go_wp2_with fail
     go_roundw
     case rel=>exact ⟨1,by omega,by go_num,fun j hj=>(show j=0 from by omega) ▸ HAT.out,q0+nq,by first | rfl | rw [World.drewN_drewN]⟩
     case measure=>simp [intOf];omega
   ·obtain ⟨y,hy⟩:∃ y,l[i - 1]?=some y:=⟨_,zzJ (by have:=HLEN.out;omega)⟩
    have hc3:w.cell? ⟨b,off+(i - 1)*2+1,none⟩=some (.int .i64 y.2):=by rw [zzy];exact HC.out _ _ (flat_get l (i - 1) y hy).2
    have hyk:okx y=true:=by
     have:=HOK.out (i - 1) (by omega)
     unfold okAt at this
     rw [hy] at this
     simp only [zzc] at this
     exact this.1
    have HY:=zzA hy
    obtain ⟨y1,y2⟩:=y
    have hy2:0≤y2∧y2≤1114111:=by simp only [okx,dom,zzc,zzg] at hyk;omega
    obtain ⟨hy2,hy3⟩:=hy2
    clear hy hyk
    have hd0:decide ((0:Int) < (i:Int))=true:=decide_eq_true (by omega)
    have hi0:((i:Int) - 1).toNat=i - 1:=by omega
    have hi2:0≤(i:Int) - 1:=by omega
    have hi3:(i:Int) - 1 < n:=by omega
    have hw1:IntKind.i64.wrap ((i:Int) - 1)=(i:Int) - 1:=IntWalk.i64_in _ (by omega)
    have hw2:IntKind.i64.wrap (y2+2)=y2+2:=IntWalk.i64_in _ (by omega)
    have HOR:=zzA (show okAt l i=true→∀ j,j < i+1→okAt l j=true from fun hat j hj=>by
      rcases Nat.lt_or_ge j i with h | h
      ·exact HOK.out j h
      ·exact (show j=i from by omega) ▸ hat)
    by_cases g4:x1 < y2+2
    ·have HF:=zzA (HNO.out (by unfold okAt;rw [HX.out];simp only [HY.out,HOX.out,Bool.true_and];simp;omega))
     have hd4:decide (x1 < y2+2)=true:=decide_eq_true g4
     rcases (show x1≤55295∨x1=57344∨(55295 < x1∧x1≠57344) from by omega) with g3 | g3 | ⟨g3,g5⟩
     ·have hB:decide (x1≤55295)=true:=decide_eq_true g3
      have hC:decide (57344≤x2)=false:=decide_eq_false (by omega)
      have hE:(x1==57344)=false:=zzh.2 (by omega)
      go_wp2_with (go_at_call 107;refine (refDomain_any _ _).mono ?_;rintro e w' ⟨rfl,rfl⟩;first | rw [hd1] | rw [hd2])
      go_quiet (fail)
      rw [World.drewN_drewN]
      obtain ⟨q0,hq0⟩:∃ q,q=m+nq:=⟨_,rfl⟩
      rw [←hq0]
      clear hq0
      go_wp2_with fail
      go_quiet (fail)
      go_wp2_with fail
      go_ret
      exact ⟨ret_bool HF.out.symm,q0+nq,by first | rfl | rw [World.drewN_drewN]⟩
     ·have hB:decide (x1≤55295)=false:=decide_eq_false (by omega)
      have hE:(x1==57344)=true:=zyE.2 g3
      have hF:(y2==55295)=false:=zzh.2 (by omega)
      have HE:=zzA g3
      clear g3
      go_wp2_with (go_at_call 107;refine (refDomain_any _ _).mono ?_;rintro e w' ⟨rfl,rfl⟩;first | rw [hd1] | rw [hd2])
      go_quiet (fail)
      rw [World.drewN_drewN]
      obtain ⟨q0,hq0⟩:∃ q,q=m+nq:=⟨_,rfl⟩
      rw [←hq0]
      clear hq0
      go_wp2_with fail
      go_quiet (fail)
      go_wp2_with fail
      go_ret
      exact ⟨ret_bool HF.out.symm,q0+nq,by first | rfl | rw [World.drewN_drewN]⟩
     ·have hB:decide (x1≤55295)=false:=decide_eq_false (by omega)
      have hE:(x1==57344)=false:=zzh.2 g5
      clear g5
      go_wp2_with (go_at_call 107;refine (refDomain_any _ _).mono ?_;rintro e w' ⟨rfl,rfl⟩;first | rw [hd1] | rw [hd2])
      go_quiet (fail)
      rw [World.drewN_drewN]
      obtain ⟨q0,hq0⟩:∃ q,q=m+nq:=⟨_,rfl⟩
      rw [←hq0]
      clear hq0
      go_wp2_with fail
      go_quiet (fail)
      go_wp2_with fail
      go_ret
      exact ⟨ret_bool HF.out.symm,q0+nq,by first | rfl | rw [World.drewN_drewN]⟩
    ·have HAT:=zzA (HOR.out (show okAt l i=true from by unfold okAt;rw [HX.out];simp only [HY.out,HOX.out,Bool.true_and];simp;omega))
     have hd4:decide (x1 < y2+2)=false:=decide_eq_false g4
     by_cases g3:x1≤55295
     case' pos=>have hB:decide (x1≤55295)=true:=decide_eq_true g3;have hC:decide (57344≤x2)=false:=decide_eq_false (by omega)
     case' neg=>have hB:decide (x1≤55295)=false:=decide_eq_false g3
     all_goals
      go_wp2_with (go_at_call 107;refine (refDomain_any _ _).mono ?_;rintro e w' ⟨rfl,rfl⟩;first | rw [hd1] | rw [hd2])
      go_quiet (fail)
      rw [World.drewN_drewN]
      obtain ⟨q0,hq0⟩:∃ q,q=m+nq:=⟨_,rfl⟩
      rw [←hq0]
      clear hq0
      go_wp2_with fail
      go_quiet (fail)
      go_wp2_with fail
      go_roundw
      case rel=>exact ⟨i+1,by omega,by go_num,HAT.out,q0+nq,by first | rfl | rw [World.drewN_drewN]⟩
      case measure=>simp [intOf];omega
  ·obtain rfl:i=n:=by omega
   have HT:=zzA (show rightB l=true from cls_yes (by have:=HLEN.out;omega) (fun j hj=>HOK.out j (by have:=HLEN.out;omega)))
   go_wp2_with fail
   go_ret
   exact ⟨ret_bool HT.out.symm,m,rfl⟩
end Go.Proofs.YtgkclnmmjedmkaaGreat
namespace Go.Proofs.YtgkclnmmjedmkaaGreat
open Tr Mach
namespace Mean
section
variable {t:List Int}
theorem nexts_nop (e k:Nat):nexts t ⟨7,(e:Nat),0,0,[]⟩ k=[(e,k)]:=by simp [nexts]
theorem nexts_cap (e k:Nat) (a:Int):nexts t ⟨3,(e:Nat),0,a,[]⟩ k=[(e,k)]:=by simp [nexts]
theorem nexts_ass (e k:Nat) (a:Int):nexts t ⟨4,(e:Nat),0,a,[]⟩ k=if asB t k a then [(e,k)] else []:=by simp [nexts]
theorem nexts_cls (e k:Nat) (r:List (Int × Int)):nexts t ⟨1,(e:Nat),0,0,r⟩ k=if k < t.length∧memB r (t.getD k 0)=true then [(e,k+1)] else []:=by simp [nexts]
theorem nexts_two (x y k:Nat):nexts t ⟨2,(x:Nat),(y:Nat),0,[]⟩ k=[(x,k),(y,k)]:=by simp [nexts]
theorem nexts_alt (z:Bool) (x y k:Nat):nexts t (altI z x y) k=if z then [(y,k),(x,k)] else [(x,k),(y,k)]:=by unfold altI;cases z <;> simp [nexts]
theorem nexts_fail (k:Nat):nexts t ⟨6,0,0,0,[]⟩ k=[]:=by simp [nexts]
theorem capsAt_not {x:Ins} (h:x.op≠3) (k:Nat) (c:List Int):capsAt x k c=c:=by unfold capsAt;rw [if_neg h]
variable {n:Un} {pl:Nat} {nt:List Int} {F A:List Pc}
theorem first1 (e:n.kind=1):firstF t n pl nt F=[goF F pl nt]:=by simp [firstF,e]
theorem first2 (e:n.kind=2):firstF t n pl nt F=if pl < t.length∧memB n.rng (t.getD pl 0)=true then [goF F (pl+1) nt] else []:=by simp [firstF,e]
theorem first3 (e:n.kind=3):firstF t n pl nt F=if asB t pl n.ast then [goF F pl nt] else []:=by simp [firstF,e]
theorem first4 (e:n.kind=4):firstF t n pl nt F=[goF (n.subs.map .b++F) pl nt]:=by simp [firstF,e]
theorem first5 (e:n.kind=5):firstF t n pl nt F=n.subs.map fun s=>.beg s pl nt F:=by simp [firstF,e]
theorem first7 {s:Un} (e:n.kind=7) (hs:n.subs=[s]):firstF t n pl nt F=[.beg s pl (nt.set (2*n.ix).toNat pl) (.g n.ix :: F)]:=by simp [firstF,e,hs]
theorem firstq (e:n.kind=-1):firstF t n pl nt F=chooseF n pl nt F F:=by simp [firstF,e]
theorem firsts (e:n.kind=-2):firstF t n pl nt F=[.dcd n pl nt F]:=by simp [firstF,e]
theorem firstp {s:Un} (e:n.kind=-3) (hs:n.subs=[s]):firstF t n pl nt F=[.beg s pl nt (.d n :: F)]:=by simp [firstF,e,hs]
variable {s:St} {at_:Nat}
theorem work_b0 (h:s.met (n.ad,pl,false)=0):workF t at_ s (.beg n pl nt F)=(s.mark (n.ad,pl,false),firstF t n pl nt F):=by simp [workF,h]
theorem work_b1 (h:s.met (n.ad,pl,false)≠0):workF t at_ s (.beg n pl nt F)=(s.mark (n.ad,pl,false),[]):=by simp [workF,h]
theorem work_d0 (h:s.met (n.ad,pl,true)=0):workF t at_ s (.dcd n pl nt F)=(s.mark (n.ad,pl,true),chooseF n pl nt (.d n :: F) F):=by simp [workF,h]
theorem work_d1 (h:s.met (n.ad,pl,true)≠0):workF t at_ s (.dcd n pl nt F)=(s.mark (n.ad,pl,true),[]):=by simp [workF,h]
theorem choose1 {s:Un} (hs:n.subs=[s]):chooseF n pl nt A F=if n.lz then [goF F pl nt,.beg s pl nt A] else [.beg s pl nt A,goF F pl nt]:=by simp [chooseF,hs]
end
section
variable {I:Nat→Option Ins} {P:List (Un × Nat)} {E:Nat} {t:List Int} {at_:Nat}
theorem Inv.go_on {s:St} {M:Nat→Nat→Bool} {Pd:List (Nat × Nat)} (h:Inv I P E t s M none 0 Pd) {i k:Nat} {x:Ins} (hx:I i=some x) (h2:x.op≠2) (hM:M i k=true) {r:Nat × Nat} (hr:r∈nexts t x k):M r.1 r.2=true :=
 (h.next i k x hx h2 hM r hr).elim id fun e=>nomatch e
theorem own_star {n:Un} {b:Nat} (e:n.kind=-2):ownB n b=[b]:=by simp [ownB,e]
theorem own_opt {n:Un} {b:Nat} (e:n.kind=-1):ownB n b=[b]:=by simp [ownB,e]
theorem own_plus {n:Un} {b:Nat} (e:n.kind=-3):ownB n b=[b+lenN n - 1]:=by simp [ownB,e]
theorem own_alt {n:Un} {b:Nat} (e:n.kind=5):ownB n b=altPc n.subs b:=by simp [ownB,e]
theorem altPc_cons {u:Un} {l:List Un} {b:Nat} (h:l≠[]):altPc (u :: l) b=b :: altPc l (b+1+lenN u+1):=by
 rw [altPc,if_neg (by simpa using h)]
theorem sil (L:Lay I P E) {M:Nat→Nat→Bool} {Pd:List (Nat × Nat)} {s s1:St} {k:FTask} (h:OneF t at_ s k s1):∀ (F:List Pc) (pc j pl:Nat) (nt:List Int),Cn I P E F pc j→k=goF F pl nt→M pc pl=true→Inv I P E t s M none 0 Pd→s1.out=s.out∧Inv I P E t s1 M none 0 Pd:=by
 refine oneF_ind (M:=fun s k s1=>∀ (F:List Pc) (pc j pl:Nat) (nt:List Int),Cn I P E F pc j→k=goF F pl nt→M pc pl=true→Inv I P E t s M none 0 Pd→s1.out=s.out∧Inv I P E t s1 M none 0 Pd) ?_ h
 intro s k s1 _ hc F pc j pl nt hC
 induction hC generalizing nt with
 | top=>intro _ hM hI;rw [(hI.fin pl).1] at hM;cases hM
 | nop h1 _ ih=>intro hk hM hI;exact ih nt hk (hI.go_on h1 (by simp) hM (by rw [nexts_nop];exact zzv _)) hI
 | g h0 h1 _ ih=>intro hk hM hI;exact ih _ hk (hI.go_on h1 (by simp) hM (by rw [nexts_cap];exact zzv _)) hI
 | @d n F pc b j hn hkd hi hF ih =>
  intro hk hM hI
  have hk:k=.dcd n pl nt F:=hk
  subst hk
  have hv:=hI.own (n,b) hn pc hi pl hM
  have hd:dB n=true:=by unfold dB;simpa using hkd
  simp only [hd] at hv
  have hw:workF t at_ s (.dcd n pl nt F)=(s.mark (n.ad,pl,true),[]):=work_d1 hv
  rw [hw] at hc
  cases hc
  refine ⟨rfl,hI.mark (fun q hq k e=>by simp at e) fun q hq k e i hi=>?_⟩
  simp only [Prod.mk.injEq,and_true] at e
  obtain ⟨e,rfl⟩:=e
  exact hI.dec q hq _ (by rw [←e];exact hv) i hi
 | @b n F b j hn hj hF ih =>
  intro hk hM hI
  have hk:k=.beg n pl nt F:=hk
  subst hk
  have hI':Inv I P E t (s.mark (n.ad,pl,false)) M none 0 Pd:=hI.mark (fun q hq k e=>by
   simp only [Prod.mk.injEq,and_true] at e
   obtain ⟨e,rfl⟩:=e
   obtain rfl:=L.ad q hq _ hn e.symm
   exact hM) fun q hq k e=>by simp at e
  by_cases hm:¬s.met (n.ad,pl,false)=0
  ·have hw:workF t at_ s (.beg n pl nt F)=(s.mark (n.ad,pl,false),[]):=work_b1 hm
   rw [hw] at hc
   cases hc
   exact ⟨rfl,hI'⟩
  replace hm:=Decidable.not_not.1 hm
  have hw:workF t at_ s (.beg n pl nt F)=(s.mark (n.ad,pl,false),firstF t n pl nt F):=work_b0 hm
  rw [hw] at hc
  have hl:=L.loc (n,b) hn
  have hnw:=L.node (n,b) hn
  have one:∀ {k':FTask} (F':List Pc) (pc' j' pl':Nat) (nt':List Int),firstF t n pl nt F=[k']→Cn I P E F' pc' j'→k'=goF F' pl' nt'→M pc' pl'=true→s1.out=s.out∧Inv I P E t s1 M none 0 Pd:=by
   intro k' F' pc' j' pl' nt' hf h1 h2 h3
   rw [hf] at hc
   cases hc with
   | cons g1 g2 =>
    cases g2
    exact g1.2 F' pc' j' pl' nt' h1 h2 h3 hI'
  have non:firstF t n pl nt F=[]→s1.out=s.out∧Inv I P E t s1 M none 0 Pd:=by
   intro hf
   rw [hf] at hc
   cases hc
   exact ⟨rfl,hI'⟩
  rcases hnw.1 with e | e | e | e | e | e | e | e | e
  ·exact one F b _ pl nt (first1 e) (by have:=hF;rwa [hl.one e,Nat.add_zero] at this) rfl hM
  ·have hx:=hl.cls e
   have hlen:=hl.two (.inl e)
   by_cases hr:n.rng=[]
   ·exact non (by rw [first2 e,hr,if_neg (by simp [memB])])
   rw [if_neg hr] at hx
   by_cases hcd:pl < t.length∧memB n.rng (t.getD pl 0)=true
   ·exact one F (b+1) _ (pl+1) nt (by rw [first2 e,if_pos hcd]) (by have:=hF;rwa [hlen] at this) rfl (hI.go_on hx (by simp) hM (by rw [nexts_cls,if_pos hcd];exact zzv _))
   ·exact non (by rw [first2 e,if_neg hcd])
  ·have hx:=hl.ass e
   have hlen:=hl.two (.inr e)
   by_cases hcd:asB t pl n.ast=true
   ·exact one F (b+1) _ pl nt (by rw [first3 e,if_pos hcd]) (by have:=hF;rwa [hlen] at this) rfl (hI.go_on hx (by simp) hM (by rw [nexts_ass,if_pos hcd];exact zzv _))
   ·exact non (by rw [first3 e,if_neg hcd])
  ·obtain ⟨h1,h2⟩:=hl.row e
   exact one (n.subs.map .b++F) b _ pl nt (first4 e) (row_cn hF h1 (L.nm (n,b) hn) (by rw [h2]) (by rw [all_subs n,zzO];simp only [];omega)) rfl hM
  ·exfalso
   have h2:=hnw.2.2.1 e
   obtain ⟨u,v,l,hs⟩:∃ u v l,n.subs=u :: v :: l:=by
    match hs:n.subs,h2 with
    | u :: v :: l,_=>exact ⟨u,v,l,rfl⟩
    | [u],h2=>simp at h2
    | [],h2=>simp at h2
   have hv:=hI.own (n,b) hn b (by rw [own_alt e,hs,altPc_cons (by simp)];exact zzH) pl hM
   rw [show dB n=false from by unfold dB;simp [e]] at hv
   exact hv hm
  ·obtain ⟨s',hs⟩:=hnw.2.2.2.2 (by omega)
   obtain ⟨h1,h2,h3,h4⟩:=hl.grp s' e hs
   refine one (.b s' :: .g n.ix :: F) (b+1) 0 pl _ (first7 e hs) (.b h2 (zzZ _) (.g (hnw.2.2.2.1 e) h3 ?_)) rfl (hI.go_on h1 (by simp) hM (by rw [nexts_cap];exact zzv _))
   have hb:n.ad+1≤s'.ad∧s'.ad+s'.all.length≤n.ad+1+(allU n.subs).length:=nmL_bd (L.nm (n,b) hn) s' (by rw [hs];exact zzv _)
   have h4:lenN n=lenN s'+2:=h4
   rw [show b+1+lenN s'+1=b+lenN n from by omega]
   exact hF.less (by rw [all_subs n,zzO];omega)
  ·exfalso
   have hv:=hI.own (n,b) hn b (by rw [own_opt e];exact zzv _) pl hM
   rw [show dB n=false from by unfold dB;simp [e]] at hv
   exact hv hm
  ·exact one (.d n :: F) b 0 pl nt (firsts e) (.d hn (.inl e) (by rw [own_star e];exact zzv _) hF) rfl hM
  ·obtain ⟨s',hs⟩:=hnw.2.2.2.2 (by omega)
   obtain ⟨h1,h2,h4⟩:=hl.plus s' e hs
   exact one (.b s' :: .d n :: F) b 0 pl nt (firstp e hs) (.b h2 (zzZ _) (.d hn (.inr e) (by rw [own_plus e,h4];simp) hF)) rfl hM
end
end Mean
namespace Mean
def Res (I:Nat→Option Ins) (P:List (Un × Nat)) (E:Nat) (t:List Int) (s1:St) (M':Nat→Nat→Bool) (Pd:List (Nat × Nat)):Option (List Int × Int)→Prop
 | none=>s1.out=[]∧Inv I P E t s1 M' none 0 Pd
 | some w=>w.2=0∧∃ e l,s1.out=(e,w.1) :: l
section
variable {p:Prg} {P:List (Un × Nat)} {E:Nat} {t:List Int} {at_:Nat}
def RunM (p:Prg) (P:List (Un × Nat)) (E:Nat) (t:List Int) (at_:Nat) (s:St) (k:FTask) (s1:St):Prop :=
 ∀ (F:List Pc) (pc j pl:Nat) (nt:List Int) (M:Nat→Nat→Bool) (Pd:List (Nat × Nat)),Cn (fun i=>p.insts[i]?) P E F pc j→k=goF F pl nt→Inv (fun i=>p.insts[i]?) P E t s M (some (pc,pl)) j Pd→s.out=[] →
  ∃ M' r,DOne p t M (nt.set 0 at_) (pc,pl) M' r∧Res (fun i=>p.insts[i]?) P E t s1 M' Pd r
theorem Res.grow {s1 s2:St} {M':Nat→Nat→Bool} {Pd:List (Nat × Nat)} {w:List Int × Int} {M2:Nat→Nat→Bool} (h:Res (fun i=>p.insts[i]?) P E t s1 M' Pd (some w)) (g:GrowsF s1 s2):Res (fun i=>p.insts[i]?) P E t s2 M2 Pd (some w):=by
 obtain ⟨h1,e,l,h2⟩:=h
 obtain ⟨⟨r,hr⟩,-⟩:=g
 exact ⟨h1,e,l++r,by rw [hr,h2];rfl⟩
theorem Res.less {s1:St} {M':Nat→Nat→Bool} {Q Pd:List (Nat × Nat)} {r:Option (List Int × Int)} (h:Res (fun i=>p.insts[i]?) P E t s1 M' (Q++Pd) r):Res (fun i=>p.insts[i]?) P E t s1 M' Pd r:=by
 cases r with
 | none=>exact ⟨h.1,h.2.drop⟩
 | some w=>exact h
theorem set_swap {nt:List Int} {i a b:Nat} {x y:Int} (h:i≠0) (_:a=b):(nt.set 0 x).set i y=(nt.set i y).set 0 x:=List.set_comm _ _ (Ne.symm h)
theorem two_run {s s2:St} {k1 k2:FTask} {F1 F2:List Pc} {pc1 pc2 j1 j2 pl:Nat} {nt:List Int} {M:Nat→Nat→Bool} {Pd:List (Nat × Nat)}
  (hc:Chn (fun a x b=>OneF t at_ a x b∧RunM p P E t at_ a x b) s [k1,k2] s2) (h1:Cn (fun i=>p.insts[i]?) P E F1 pc1 j1) (h2:Cn (fun i=>p.insts[i]?) P E F2 pc2 j2) (e1:k1=goF F1 pl nt) (e2:k2=goF F2 pl nt)
  (hI:Inv (fun i=>p.insts[i]?) P E t s M none 0 Pd) (ho:s.out=[]):∃ M' r,DMany p t M (nt.set 0 at_) [(pc1,pl),(pc2,pl)] M' r∧Res (fun i=>p.insts[i]?) P E t s2 M' Pd r:=by
 cases hc with
 | cons g1 g =>
  cases g with
  | cons g2 g3 =>
   cases g3
   obtain ⟨M1,r1,d1,q1⟩:=g1.2 F1 pc1 j1 pl nt M Pd h1 e1 (hI.weak _ _) ho
   cases r1 with
   | some w=>exact ⟨M1,some w,.stop d1,q1.grow (oneF_grows g2.1)⟩
   | none =>
    obtain ⟨o1,i1⟩:=q1
    obtain ⟨M2,r2,d2,q2⟩:=g2.2 F2 pc2 j2 pl nt M1 Pd h2 e2 (i1.weak _ _) o1
    exact ⟨M2,r2,.cons d1 (.one p t d2),q2⟩
theorem alt_run (L:Lay (fun i=>p.insts[i]?) P E) {n:Un} {b0 pl jF:Nat} {nt:List Int} {F:List Pc} (hn:(n,b0)∈P) (h5:n.kind=5) (hF:Cn (fun i=>p.insts[i]?) P E F (b0+lenN n) jF) :
  ∀ (l:List Un) (b:Nat) {s s1:St} {M:Nat→Nat→Bool} {Pd:List (Nat × Nat)},l≠[]→AltP (fun i=>p.insts[i]?) P l b (b0+lenN n)→(∀ i∈altPc l b,i∈ownB n b0)→(∀ u∈l,n.ad+1≤u.ad∧u.ad+u.all.length≤jF) →
   Chn (fun a x b=>OneF t at_ a x b∧RunM p P E t at_ a x b) s (l.map fun u=>.beg u pl nt F) s1→Inv (fun i=>p.insts[i]?) P E t s M (some (b,pl)) (n.ad+1) Pd→s.met (n.ad,pl,false)≠0 →
   (∀ i∈altPc l b,M i pl=false∧(i,pl) ∉ Pd)→s.out=[]→∃ M' r,DOne p t M (nt.set 0 at_) (b,pl) M' r∧Res (fun i=>p.insts[i]?) P E t s1 M' Pd r
 | [],_,_,_,_,_,h,_,_,_,_,_,_,_,_=>absurd rfl h
 | [u],b,s,s1,M,Pd,_,hA,hO,hB,hc,hI,hv,hP,ho=>by
  simp only [AltP,List.isEmpty_nil,if_true] at hA
  have hb:=hB u (zzv _)
  cases hc with
  | cons g1 g2 =>
   cases g2
   exact g1.2 (.b u :: F) b (n.ad+1) pl nt M Pd (.b hA.1 hb.1 (by rw [hA.2];exact hF.less hb.2)) rfl hI ho
 | u :: v :: l,b,s,s1,M,Pd,_,hA,hO,hB,hc,hI,hv,hP,ho=>by
  rw [AltP,if_neg (by simp)] at hA
  have hpc:altPc (u :: v :: l) b=b :: altPc (v :: l) (b+1+lenN u+1):=altPc_cons (by simp)
  rw [hpc] at hO hP
  have hb:=hB u zzH
  obtain ⟨hx,hu,hnop,hA2⟩:=hA
  have hdb:dB n=false:=by unfold dB;simp [h5]
  have hPb:=hP b zzH
  have hI1:Inv (fun i=>p.insts[i]?) P E t s (setM M b pl) none 0 Pd:=hI.step2 L hn (hO b zzH) hPb.2 (by simp only [hdb];exact hv) (fun _ h=>h) (fun _ h=>.inl h)
  have hI2:Inv (fun i=>p.insts[i]?) P E t s (setM M b pl) none 0 ((altPc (v :: l) (b+1+lenN u+1)).map (fun i=>(i,pl))++Pd):=by
   refine ⟨hI1.beg,hI1.dec,hI1.own,hI1.next,fun r hr=>?_,hI1.fin⟩
   rcases zzM.1 hr with hr | hr
   ·obtain ⟨i,hi,rfl⟩:=zzp.1 hr
    refine ⟨?_,(n,b0),hn,h5,hO i (zzI _ hi),hv⟩
    unfold setM
    rw [if_neg (fun e=>by have:=(altPc_in _ _ i hi).1;simp only [] at e;omega)]
    exact (hP i (zzI _ hi)).1
   ·exact hI1.pend r hr
  cases hc with
  | cons g1 g2 =>
   obtain ⟨M1,r1,d1,q1⟩:=g1.2 (.b u :: F) (b+1) 0 pl nt (setM M b pl) _ (.b hu (zzZ _) (.nop hnop (hF.less hb.2))) rfl (hI2.weak _ _) ho
   have hstep:∀ {M':Nat→Nat→Bool} {r:Option (List Int × Int)},DMany p t (setM M b pl) (nt.set 0 at_) [(b+1,pl),(b+1+lenN u+1,pl)] M' r→DOne p t M (nt.set 0 at_) (b,pl) M' r:=fun hd=>by
    refine .step (q:=(b,pl)) hPb.1 hx (by simp) ?_
    rw [capsAt_not (by simp),nexts_two]
    exact hd
   cases r1 with
   | some w=>exact ⟨M1,some w,hstep (.stop d1),q1.less.grow (chn_grows (fun _ _ _ h=>oneF_grows h.1) g2)⟩
   | none =>
    obtain ⟨o1,i1⟩:=q1
    obtain ⟨M2,r2,d2,q2⟩:=alt_run L hn h5 hF (v :: l) (b+1+lenN u+1) (by simp) hA2 (fun i hi=>hO i (zzI _ hi)) (fun w hw=>hB w (zzI _ hw)) g2 (i1.drop.weak _ _) ((oneF_grows g1.1).2 _ hv)
     (fun i hi=>⟨(i1.pend (i,pl) (zzW _ (zzp.2 ⟨i,hi,rfl⟩))).1,(hP i (zzI _ hi)).2⟩) o1
    exact ⟨M2,r2,hstep (.cons d1 (.one p t d2)),q2⟩
theorem Inv.more {I:Nat→Option Ins} {s:St} {M:Nat→Nat→Bool} {T:Option (Nat × Nat)} {j j':Nat} {Pd:List (Nat × Nat)} (h:Inv I P E t s M T j Pd) (hj:j≤j'):Inv I P E t s M T j' Pd :=
 ⟨fun q hq k hm=>(h.beg q hq k hm).imp id fun e=>⟨e.1,zzQ e.2 hj⟩,h.dec,h.own,h.next,h.pend,h.fin⟩
theorem run_task (L:Lay (fun i=>p.insts[i]?) P E) {s s1:St} {k:FTask} (h:OneF t at_ s k s1):RunM p P E t at_ s k s1:=by
 refine oneF_ind (M:=RunM p P E t at_) ?_ h
 intro s k s1 hone hc F pc j pl nt M Pd hC
 have met_case:∀ {F:List Pc} {pc j:Nat} {nt:List Int} {M:Nat→Nat→Bool},Cn (fun i=>p.insts[i]?) P E F pc j→k=goF F pl nt→Inv (fun i=>p.insts[i]?) P E t s M (some (pc,pl)) j Pd→s.out=[]→M pc pl=true →
   ∃ M' r,DOne p t M (nt.set 0 at_) (pc,pl) M' r∧Res (fun i=>p.insts[i]?) P E t s1 M' Pd r:=fun {F pc j nt M} hC hk hI ho hM=>by
  obtain ⟨h1,h2⟩:=sil L hone F pc j pl nt hC hk hM (hI.clear hM)
  exact ⟨M,none,.met hM,by rw [h1];exact ho,h2⟩
 induction hC generalizing nt M with
 | @top j =>
  intro hk hI ho
  have hM:=(hI.fin pl).1
  have hk:k=.top pl nt:=hk
  subst hk
  have hw:workF t at_ s (.top pl nt)=(ended at_ s pl nt,[]):=rfl
  rw [hw] at hc
  cases hc
  refine ⟨setM (setM M E pl) (E+1) pl,some ((nt.set 0 at_).set 1 pl,0),.step (q:=(E,pl)) hM L.fin (by simp) ?_,rfl,pl,[],?_⟩
  ·rw [nexts_cap]
   refine .stop (.fin (q:=(E+1,pl)) ?_ L.mat rfl)
   unfold setM
   rw [if_neg (by simp)]
   exact (hI.fin pl).2
  ·unfold ended
   rw [ho]
   rfl
 | @nop F pc e j h1 hF ih =>
  intro hk hI ho
  by_cases hM:M pc pl=true
  ·exact met_case (.nop h1 hF) hk hI ho hM
  have hM:M pc pl=false:=by simpa using hM
  obtain ⟨M',r,hd,hr⟩:=ih nt (setM M pc pl) hk ((hI.step L h1 (by simp) (by simp) (by simp) (T':=some (e,pl)) (by rw [nexts_nop];simp)).more (zzZ _)) ho
  refine ⟨M',r,.step (q:=(pc,pl)) hM h1 (by simp) ?_,hr⟩
  rw [capsAt_not (by simp),nexts_nop]
  exact .one p t hd
 | @g i F pc j h0 h1 hF ih =>
  intro hk hI ho
  by_cases hM:M pc pl=true
  ·exact met_case (.g h0 h1 hF) hk hI ho hM
  have hM:M pc pl=false:=by simpa using hM
  obtain ⟨M',r,hd,hr⟩:=ih (nt.set (2*i+1).toNat pl) (setM M pc pl) hk ((hI.step L h1 (by simp) (by simp) (by intro _;show 2*i+1≠1;omega) (T':=some (pc+1,pl)) (by rw [nexts_cap];simp)).more (zzZ _)) ho
  refine ⟨M',r,.step (q:=(pc,pl)) hM h1 (by simp) ?_,hr⟩
  rw [nexts_cap,show capsAt ⟨3,(pc+1:Nat),0,2*i+1,[]⟩ pl (nt.set 0 at_)=(nt.set (2*i+1).toNat pl).set 0 at_ from by
   unfold capsAt;rw [if_pos rfl];exact set_swap (a:=0) (by show (2*i+1).toNat≠0;omega) rfl]
  exact .one p t hd
 | @d n F pc b j hn hkd hi hF ih =>
  intro hk hI ho
  by_cases hM:M pc pl=true
  ·exact met_case (.d hn hkd hi hF) hk hI ho hM
  have hMt:=hM
  have hM:M pc pl=false:=by simpa using hM
  have hk:k=.dcd n pl nt F:=hk
  subst hk
  have hl:=L.loc (n,b) hn
  have hnw:nodeW n:=L.node (n,b) hn
  have hm:s.met (n.ad,pl,true)=0:=Decidable.byContradiction fun hm=>hMt (hI.dec (n,b) hn pl hm pc hi)
  rw [work_d0 hm] at hc
  have hdb:dB n=true:=by unfold dB;simpa using hkd
  have hp:(pc,pl) ∉ Pd:=fun hp=>by
   obtain ⟨-,q,hq,g2,g3,-⟩:=hI.pend _ hp
   obtain rfl:=L.own q hq _ hn pc g3 hi
   simp only [] at g2
   omega
  have own1:∀ i'∈ownB n b,i'=pc:=by
   rcases hkd with e | e
   ·rw [own_star e] at hi ⊢
    simp only [zzE] at hi ⊢
    intro i' h;rw [h,hi]
   ·rw [own_plus e] at hi ⊢
    simp only [zzE] at hi ⊢
    intro i' h;rw [h,hi]
  have hI1:Inv (fun i=>p.insts[i]?) P E t (s.mark (n.ad,pl,true)) (setM M pc pl) none 0 Pd:=hI.step2 L hn hi hp (by simp only [hdb];exact met_self _ _) (fun _ h=>met_mark h) fun m hm=>by
   rcases mark_back hm with h | h
   ·exact .inl h
   ·exact .inr ⟨h,own1⟩
  obtain ⟨s',hs⟩:=hnw.2.2.2.2 (by omega)
  rw [choose1 hs] at hc
  -- the instruction, where the loop begins, where it goes on
  have key:∃ x y:Nat,p.insts[pc]?=some (altI n.lz x y)∧Cn (fun i=>p.insts[i]?) P E (.b s' :: .d n :: F) x 0∧Cn (fun i=>p.insts[i]?) P E F y (n.ad+n.all.length):=by
   rcases hkd with e | e
   ·obtain ⟨h1,h2,h3,h4⟩:=hl.star s' e hs
    have h4:lenN n=lenN s'+2:=h4
    rw [own_star e,zzE] at hi
    subst hi
    exact ⟨_,_,h1,.b h2 (zzZ _) (.nop h3 (.d hn (.inl e) (by rw [own_star e];exact zzv _) hF)),by rw [show pc+1+lenN s'+1=pc+lenN n from by omega];exact hF⟩
   ·obtain ⟨h1,h2,h4⟩:=hl.plus s' e hs
    have h4:lenN n=lenN s'+1:=h4
    have hi2:=hi
    rw [own_plus e,zzE] at hi
    rw [show b+lenN n - 1=b+lenN s' from by omega] at hi
    subst hi
    exact ⟨_,_,h1,.b h2 (zzZ _) (.d hn (.inr e) hi2 hF),by rw [show b+lenN s'+1=b+lenN n from by omega];exact hF⟩
  obtain ⟨x,y,hx,c1,c2⟩:=key
  have hstep:∀ {M':Nat→Nat→Bool} {r:Option (List Int × Int)},DMany p t (setM M pc pl) (nt.set 0 at_) (if n.lz then [(y,pl),(x,pl)] else [(x,pl),(y,pl)]) M' r→DOne p t M (nt.set 0 at_) (pc,pl) M' r:=fun hd=>by
   refine .step (q:=(pc,pl)) hM hx (by rw [altI_op];simp) ?_
   rw [capsAt_not (by rw [altI_op];simp),nexts_alt]
   exact hd
  cases hz:n.lz with
  | true =>
   rw [hz,if_pos rfl] at hc
   simp only [hz,if_true] at hstep
   obtain ⟨M',r,hd,hr⟩:=two_run hc c2 c1 rfl rfl hI1 ho
   exact ⟨M',r,hstep hd,hr⟩
  | false =>
   rw [hz,if_neg (by simp)] at hc
   simp only [hz,Bool.false_eq_true,if_false] at hstep
   obtain ⟨M',r,hd,hr⟩:=two_run hc c1 c2 rfl rfl hI1 ho
   exact ⟨M',r,hstep hd,hr⟩
 | @b n F b j hn hj hF ih =>
  intro hk hI ho
  by_cases hM:M b pl=true
  ·exact met_case (.b hn hj hF) hk hI ho hM
  have hMt:=hM
  have hM:M b pl=false:=by simpa using hM
  have hk:k=.beg n pl nt F:=hk
  subst hk
  have hl:=L.loc (n,b) hn
  have hnw:nodeW n:=L.node (n,b) hn
  have hm:s.met (n.ad,pl,false)=0:=Decidable.byContradiction fun hm=>by
   rcases hI.beg (n,b) hn pl hm with h | ⟨-,h⟩
   ·exact hMt h
   ·simp only [] at h;omega
  rw [work_b0 hm] at hc
  have hI1:=hI.mark_beg L hn hj
  have hsz:n.ad+1≤n.ad+n.all.length:=by rw [all_subs n,zzO];omega
  have hbd:∀ s'∈n.subs,n.ad+1≤s'.ad∧s'.ad+s'.all.length≤n.ad+n.all.length:=fun s' hs'=>by
   have hb:n.ad+1≤s'.ad∧s'.ad+s'.all.length≤n.ad+1+(allU n.subs).length:=nmL_bd (L.nm (n,b) hn) s' hs'
   rw [all_subs n,zzO];omega
  -- a single task in the same place
  have one:∀ {k':FTask} (F':List Pc) (j':Nat),firstF t n pl nt F=[k']→Cn (fun i=>p.insts[i]?) P E F' b j'→n.ad+1≤j'→k'=goF F' pl nt→∃ M' r,DOne p t M (nt.set 0 at_) (b,pl) M' r∧Res (fun i=>p.insts[i]?) P E t s1 M' Pd r:=by
   intro k' F' j' hf h1 hj' h2
   rw [hf] at hc
   cases hc with
   | cons g1 g2 =>
    cases g2
    exact g1.2 F' b j' pl nt M Pd h1 h2 (hI1.more hj') ho
  -- a single task behind a step
  have two:∀ {k':FTask} {x:Ins} (F':List Pc) (pc' pl':Nat) (nt':List Int),firstF t n pl nt F=[k']→p.insts[b]?=some x→x.op≠5→x.op≠2→(x.op=3→x.arg≠1)→nexts t x pl=[(pc',pl')]→capsAt x pl (nt.set 0 at_)=nt'.set 0 at_ →
    Cn (fun i=>p.insts[i]?) P E F' pc' 0→k'=goF F' pl' nt'→∃ M' r,DOne p t M (nt.set 0 at_) (b,pl) M' r∧Res (fun i=>p.insts[i]?) P E t s1 M' Pd r:=by
   intro k' x F' pc' pl' nt' hf hx x5 x2 x3 hnx hcp h1 h2
   rw [hf] at hc
   cases hc with
   | cons g1 g2 =>
    cases g2
    obtain ⟨M',r,hd,hr⟩:=g1.2 F' pc' 0 pl' nt' (setM M b pl) Pd h1 h2 (hI1.step L hx x5 x2 x3 (by rw [hnx];simp)) ho
    refine ⟨M',r,.step (q:=(b,pl)) hM hx x5 ?_,hr⟩
    rw [hnx,hcp]
    exact .one p t hd
  -- nothing more
  have non:∀ {x:Ins},firstF t n pl nt F=[]→p.insts[b]?=some x→x.op≠5→x.op≠2→x.op≠3→nexts t x pl=[]→∃ M' r,DOne p t M (nt.set 0 at_) (b,pl) M' r∧Res (fun i=>p.insts[i]?) P E t s1 M' Pd r:=by
   intro x hf hx x5 x2 x3 hnx
   rw [hf] at hc
   cases hc
   refine ⟨setM M b pl,none,.step (q:=(b,pl)) hM hx x5 ?_,ho,hI1.step L hx x5 x2 (fun e=>absurd e x3) (by rw [hnx];simp)⟩
   rw [hnx]
   exact .nil
  rcases hnw.1 with e | e | e | e | e | e | e | e | e
  ·exact one F _ (first1 e) (by have:=hF;rwa [hl.one e,Nat.add_zero] at this) hsz rfl
  ·have hx:=hl.cls e
   have hlen:=hl.two (.inl e)
   by_cases hr:n.rng=[]
   ·rw [if_pos hr] at hx
    exact non (by rw [first2 e,hr,if_neg (by simp [memB])]) hx (by simp) (by simp) (by simp) (nexts_fail _)
   rw [if_neg hr] at hx
   by_cases hcd:pl < t.length∧memB n.rng (t.getD pl 0)=true
   ·exact two F (b+1) (pl+1) nt (by rw [first2 e,if_pos hcd]) hx (by simp) (by simp) (by simp) (by rw [nexts_cls,if_pos hcd]) (capsAt_not (by simp) _ _) (by have:=hF;rw [hlen] at this;exact this.less (zzZ _)) rfl
   ·exact non (by rw [first2 e,if_neg hcd]) hx (by simp) (by simp) (by simp) (by rw [nexts_cls,if_neg hcd])
  ·have hx:=hl.ass e
   have hlen:=hl.two (.inr e)
   by_cases hcd:asB t pl n.ast=true
   ·exact two F (b+1) pl nt (by rw [first3 e,if_pos hcd]) hx (by simp) (by simp) (by simp) (by rw [nexts_ass,if_pos hcd]) (capsAt_not (by simp) _ _) (by have:=hF;rw [hlen] at this;exact this.less (zzZ _)) rfl
   ·exact non (by rw [first3 e,if_neg hcd]) hx (by simp) (by simp) (by simp) (by rw [nexts_ass,if_neg hcd])
  ·obtain ⟨h1,h2⟩:=hl.row e
   exact one (n.subs.map .b++F) (n.ad+1) (first4 e) (row_cn hF h1 (L.nm (n,b) hn) (by rw [h2]) (by rw [all_subs n,zzO];simp only [];omega)) (zzF _) rfl
  ·have h2:=hnw.2.2.1 e
   rw [first5 e] at hc
   have hdb:dB n=false:=by unfold dB;simp [e]
   refine alt_run L hn e hF n.subs b (by intro h;rw [h] at h2;simp at h2) (hl.alt e) (by rw [own_alt e];exact fun _ h=>h) hbd hc hI1 (met_self _ _) (fun i hi=>?_) ho
   have hi2:i∈ownB n b:=by rw [own_alt e];exact hi
   refine ⟨?_,fun hp=>?_⟩
   ·cases hq:M i pl with
    | false=>rfl
    | true =>
     have:=hI.own (n,b) hn i hi2 pl hq
     simp only [hdb] at this
     exact absurd hm this
   ·obtain ⟨-,q,hq,g2,g3,g4⟩:=hI.pend _ hp
    obtain rfl:=L.own q hq _ hn i g3 hi2
    exact g4 hm
  ·obtain ⟨s',hs⟩:=hnw.2.2.2.2 (by omega)
   obtain ⟨h1,h2,h3,h4⟩:=hl.grp s' e hs
   have h4:lenN n=lenN s'+2:=h4
   have hix:=hnw.2.2.2.1 e
   refine two (.b s' :: .g n.ix :: F) (b+1) pl _ (first7 e hs) h1 (by simp) (by simp) (by intro _;show 2*n.ix≠1;omega) (nexts_cap _ _ _) (by unfold capsAt;rw [if_pos rfl];exact set_swap (a:=0) (by show (2*n.ix).toNat≠0;omega) rfl) (.b h2 (zzZ _) (.g hix h3 ?_)) rfl
   rw [show b+1+lenN s'+1=b+lenN n from by omega]
   exact hF.less (hbd s' (by rw [hs];exact zzv _)).2
  ·obtain ⟨s',hs⟩:=hnw.2.2.2.2 (by omega)
   obtain ⟨h1,h2,h4⟩:=hl.opt s' e hs
   have h4:lenN n=lenN s'+1:=h4
   have hi:b∈ownB n b:=by rw [own_opt e];exact zzv _
   have hdb:dB n=false:=by unfold dB;simp [e]
   have hp:(b,pl) ∉ Pd:=fun hp=>by
    obtain ⟨-,q,hq,g2,g3,-⟩:=hI.pend _ hp
    obtain rfl:=L.own q hq _ hn b g3 hi
    simp only [] at g2
    omega
   have hI2:Inv (fun i=>p.insts[i]?) P E t (s.mark (n.ad,pl,false)) (setM M b pl) none 0 Pd:=hI1.step2 L hn hi hp (by simp only [hdb];exact met_self _ _) (fun _ h=>h) fun m hm=>.inl hm
   have hbs:=(hbd s' (by rw [hs];exact zzv _)).2
   have c1:Cn (fun i=>p.insts[i]?) P E (.b s' :: F) (b+1) 0:=.b h2 (zzZ _) (by rw [show b+1+lenN s'=b+lenN n from by omega];exact hF.less hbs)
   have c2:Cn (fun i=>p.insts[i]?) P E F (b+1+lenN s') (n.ad+n.all.length):=by rw [show b+1+lenN s'=b+lenN n from by omega];exact hF
   rw [firstq e,choose1 hs] at hc
   have hstep:∀ {M':Nat→Nat→Bool} {r:Option (List Int × Int)},DMany p t (setM M b pl) (nt.set 0 at_) (if n.lz then [(b+1+lenN s',pl),(b+1,pl)] else [(b+1,pl),(b+1+lenN s',pl)]) M' r→DOne p t M (nt.set 0 at_) (b,pl) M' r:=fun hd=>by
    refine .step (q:=(b,pl)) hM h1 (by rw [altI_op];simp) ?_
    rw [capsAt_not (by rw [altI_op];simp),nexts_alt]
    exact hd
   cases hz:n.lz with
   | true =>
    rw [hz,if_pos rfl] at hc
    simp only [hz,if_true] at hstep
    obtain ⟨M',r,hd,hr⟩:=two_run hc c2 c1 rfl rfl hI2 ho
    exact ⟨M',r,hstep hd,hr⟩
   | false =>
    rw [hz,if_neg (by simp)] at hc
    simp only [hz,Bool.false_eq_true,if_false] at hstep
    obtain ⟨M',r,hd,hr⟩:=two_run hc c1 c2 rfl rfl hI2 ho
    exact ⟨M',r,hstep hd,hr⟩
  ·exact one (.d n :: F) (n.ad+1) (firsts e) (.d hn (.inl e) (by rw [own_star e];exact zzv _) hF) (zzF _) rfl
  ·obtain ⟨s',hs⟩:=hnw.2.2.2.2 (by omega)
   obtain ⟨h1,h2,h4⟩:=hl.plus s' e hs
   have hb:=hbd s' (by rw [hs];exact zzv _)
   exact one (.b s' :: .d n :: F) (n.ad+1) (firstp e hs) (.b h2 hb.1 (.d hn (.inr e) (by rw [own_plus e,h4];simp) hF)) (zzF _) rfl
end
end Mean
namespace Mean
mutual
def mkV:Us→Nat→Un
 | .mk k r a i z l,n=>.mk n k r a i z (mkVs l (n+1))
def mkVs:List Us→Nat→List Un
 | [],_=>[]
 | u :: l,n=>mkV u n :: mkVs l (n+szU u)
end
mutual
theorem mkV_sh:∀ (u:Us) (n:Nat),shU (mkV u n)=u
 | .mk k r a i z l,n=>by rw [mkV,shU,mkVs_sh l]
theorem mkVs_sh:∀ (l:List Us) (n:Nat),shUs (mkVs l n)=l
 | [],_=>rfl
 | u :: l,n=>by rw [mkVs,shUs,mkV_sh u,mkVs_sh l]
end
theorem mkV_len (u:Us) (n:Nat):(mkV u n).all.length=szU u:=by rw [all_len,mkV_sh]
theorem mkV_ad (u:Us) (n:Nat):(mkV u n).ad=n:=by cases u;rw [mkV];rfl
mutual
theorem mkV_ads:∀ (u:Us) (n:Nat),(mkV u n).all.map Un.ad=List.range' n (szU u)
 | .mk k r a i z l,n=>by
  rw [mkV,Un.all,zzS,mkVs_ads l,szU,List.range'_succ];rfl
theorem mkVs_ads:∀ (l:List Us) (n:Nat),(allU (mkVs l n)).map Un.ad=List.range' n (szUs l)
 | [],_=>rfl
 | u :: l,n=>by
  rw [mkVs,allU,zzT,mkV_ads u,mkVs_ads l,szUs,←List.range'_append_1]
end
theorem mkVs_nm:∀ (l:List Us) (n:Nat),nmL (mkVs l n) n
 | [],_=>trivial
 | u :: l,n=>by
  rw [mkVs]
  refine ⟨mkV_ad u n,?_⟩
  rw [mkV_len]
  exact mkVs_nm l _
mutual
theorem mkV_nm:∀ (u:Us) (n:Nat),∀ m∈(mkV u n).all,nmL m.subs (m.ad+1)
 | .mk k r a i z l,n,m,hm=>by
  rw [mkV,Un.all] at hm
  rcases zzN.1 hm with rfl | hm
  ·exact mkVs_nm l (n+1)
  ·exact mkVs_nms l (n+1) m hm
theorem mkVs_nms:∀ (l:List Us) (n:Nat),∀ m∈allU (mkVs l n),nmL m.subs (m.ad+1)
 | [],_,m,hm=>by cases hm
 | u :: l,n,m,hm=>by
  rw [mkVs,allU] at hm
  rcases zzM.1 hm with hm | hm
  ·exact mkV_nm u n m hm
  ·exact mkVs_nms l _ m hm
end
def rightU (k i:Int) (n:Nat):Prop :=
 (k=1∨k=2∨k=3∨k=4∨k=5∨k=7∨k=-1∨k=-2∨k=-3)∧(k=1∨k=2∨k=3→n=0)∧(k=5→2≤n)∧(k=7→1≤i)∧(k=7∨k=-1∨k=-2∨k=-3→n=1)
mutual
def allRU:Us→Prop
 | .mk k _ _ i _ l=>rightU k i l.length∧allRUs l
def allRUs:List Us→Prop
 | []=>True
 | u :: l=>allRU u∧allRUs l
end
theorem allRUs_iff:∀ l:List Us,allRUs l ↔ ∀ u∈l,allRU u
 | []=>by simp [allRUs]
 | u :: l=>by rw [allRUs,allRUs_iff l];simp
theorem ru_loop {k:Int} {z:Bool} {x:Us} (hk:k=-1∨k=-2∨k=-3) (h:allRU x):allRU (loopU k z x):=by
 refine ⟨⟨by omega,by omega,by omega,by omega,fun _=>rfl⟩,h,trivial⟩
theorem ru_cat {l:List Us} (h:∀ u∈l,allRU u):allRU (catU l):=⟨⟨by omega,by omega,by omega,by omega,by omega⟩,(allRUs_iff l).2 h⟩
theorem ru_opt {z:Bool} {x:Us} (h:allRU x):∀ n:Nat,allRU (optU z x n)
 | 0=>ru_loop (.inl rfl) h
 | n+1=>ru_loop (.inl rfl) (ru_cat fun u hu=>by
  simp only [zzN,zyA,or_false] at hu
  rcases hu with rfl | rfl
  ·exact h
  ·exact ru_opt h n)
theorem ru_rep {n m:Int} {z:Bool} {x:Us} (h:allRU x):allRU (repU x n m z):=by
 unfold repU
 split
 ·split
  ·exact ru_loop (.inr (.inl rfl)) h
  ·refine ru_cat fun u hu=>?_
   rcases zzM.1 hu with hu | hu
   ·rw [(List.mem_replicate.1 hu).2];exact h
   ·simp only [zzE] at hu
    rw [hu];exact ru_loop (.inr (.inr rfl)) h
 ·split
  ·exact ⟨⟨.inl rfl,fun _=>rfl,by omega,by omega,by omega⟩,trivial⟩
  ·refine ru_cat fun u hu=>?_
   rcases zzM.1 hu with hu | hu
   ·rw [(List.mem_replicate.1 hu).2];exact h
   ·split at hu
    ·simp only [zzE] at hu
     rw [hu];exact ru_opt h _
    ·cases hu
theorem ru_unf:∀ t:Tr.Tr,allB t=true→allRU (unfS t):=by
 intro t
 induction t using Tr.Tr.ind with
 | h t ih =>
  intro h
  cases kinds h with
  | empty=>exact ⟨⟨.inl rfl,fun _=>rfl,by omega,by omega,by omega⟩,trivial⟩
  | cls r hr=>exact ⟨⟨.inr (.inl rfl),fun _=>rfl,by omega,by omega,by omega⟩,trivial⟩
  | ass a ha=>exact ⟨⟨.inr (.inr (.inl rfl)),fun _=>rfl,by omega,by omega,by omega⟩,trivial⟩
  | cat l h2 hs =>
   rw [catT,unfS,if_pos (by decide),unfSs_map]
   refine ⟨⟨by omega,by omega,by omega,by omega,by omega⟩,(allRUs_iff _).2 fun u hu=>?_⟩
   obtain ⟨s,hs',rfl⟩:=zzp.1 hu
   exact ih s hs' (hs s hs')
  | alt l h2 hs =>
   rw [altT,unfS,if_pos (by decide),unfSs_map]
   refine ⟨⟨by omega,by omega,fun _=>by rw [zzP];exact h2,by omega,by omega⟩,(allRUs_iff _).2 fun u hu=>?_⟩
   obtain ⟨s,hs',rfl⟩:=zzp.1 hu
   exact ih s hs' (hs s hs')
  | rep x n m z hx h0 h1 hm =>
   rw [repT,unfS,if_neg (by decide),unfSs_map]
   exact ru_rep (ih x (zzv _) hx)
  | group x i s hx h0 h1 hm =>
   rw [groupT,unfS,if_pos (by decide),unfSs_map]
   exact ⟨⟨by omega,by omega,by omega,fun _=>h0,fun _=>rfl⟩,ih x (zzv _) hx,trivial⟩
theorem nodeW_of {n:Un} (h:rightU n.kind n.ix n.subs.length):nodeW n:=by
 obtain ⟨h1,h2,h3,h4,h5⟩:=h
 refine ⟨h1,fun e=>zzq (h2 e),h3,h4,fun e=>?_⟩
 have:=h5 e
 match hs:n.subs,this with
 | [s],_=>exact ⟨s,rfl⟩
theorem ru_nodes:∀ u:Un,allRU (shU u)→∀ n∈u.all,nodeW n:=by
 intro u
 induction u using Un.ind with
 | h u ih =>
  intro h n hn
  rw [shU_eq] at h
  obtain ⟨h1,h2⟩:=h
  rw [allRUs_iff] at h2
  rw [all_subs u] at hn
  rcases zzN.1 hn with rfl | hn
  ·exact nodeW_of (by rwa [zzP] at h1)
  ·rw [allU_flat] at hn
   obtain ⟨s,hs,hn⟩:=zzs.1 hn
   exact ih s hs (h2 _ (zzk hs)) n hn
def CodeEq (v:Un) (s:Tr.Tr):Prop:=lenN v=lenS s∧∀ b,codeN v b=codeS s b
theorem codes_eq:∀ {us:List Un} {l:List Tr.Tr},shUs us=unfSs l→(∀ s∈l,∀ v,shU v=unfS s→CodeEq v s)→lensN us=lensS l∧us.length=l.length∧(∀ b,codesN us b=codesS l b)∧∀ b e,altN us b e=altS l b e
 | us,[],h,_=>by
  rw [unfSs] at h
  obtain rfl:=shUs_nil h
  exact ⟨rfl,rfl,fun _=>rfl,fun _ _=>rfl⟩
 | us,s :: l,h,ih=>by
  rw [unfSs] at h
  obtain ⟨u,us',rfl,h1,h2⟩:=shUs_cons h
  obtain ⟨e1,e2⟩:=ih s zzH u h1
  obtain ⟨g1,g2,g3,g4⟩:=codes_eq h2 fun x hx=>ih x (zzI _ hx)
  refine ⟨by rw [lensN,lensS,e1,g1],by rw [zzO,zzO,g2],fun b=>by rw [codesN,codesS,e1,e2,g3],fun b e=>?_⟩
  have he:us'.isEmpty=l.isEmpty:=by
   cases us' <;> cases l <;> simp at g2 <;> rfl
  rw [altN,altS,he,e1,e2,e2,g4]
theorem simp_rep {x:Tr.Tr} {n m:Int} {z:Bool} {a:Int} (h:simpB (repT x n m z) a=true) (h0:0≤n) (hm:m=-1∨(n≤m∧m≤1000)):simpB x 6=true∧((n=0∧m=1)∨(n=0∧m=-1)∨(n=1∧m=-1)):=by
 rw [simpB_iff] at h
 obtain ⟨h1,-,h3⟩:=h
 refine ⟨h3 x (zzv _),?_⟩
 unfold repT badRep at h1
 rw [decide_eq_false_iff_not] at h1
 omega
theorem code_eq:∀ (s:Tr.Tr),allB s=true→∀ a,simpB s a=true→∀ v,shU v=unfS s→CodeEq v s:=by
 intro s
 induction s using Tr.Tr.ind with
 | h s ih =>
  intro h a hsi v hv
  cases kinds h with
  | empty =>
   obtain ⟨ad,us,rfl,hu⟩:=shU_mk (show shU v=.mk 1 [] 0 0 false [] from hv)
   obtain rfl:=shUs_nil hu
   exact ⟨rfl,fun b=>rfl⟩
  | cls r hr =>
   obtain ⟨ad,us,rfl,hu⟩:=shU_mk (show shU v=.mk 2 r 0 0 false [] from hv)
   obtain rfl:=shUs_nil hu
   exact ⟨rfl,fun b=>rfl⟩
  | ass x hx =>
   obtain ⟨ad,us,rfl,hu⟩:=shU_mk (show shU v=.mk 3 [] x 0 false [] from hv)
   obtain rfl:=shUs_nil hu
   exact ⟨rfl,fun b=>rfl⟩
  | cat l h2 hs =>
   obtain ⟨ad,us,rfl,hu⟩:=shU_mk (show shU v=.mk 4 [] 0 0 false (unfSs l) from hv)
   have hsub:=((simpB_iff _ _).1 hsi).2.2
   obtain ⟨g1,g2,g3,g4⟩:=codes_eq hu fun x hx=>ih x hx (hs x hx) _ (hsub x hx)
   refine ⟨?_,fun b=>?_⟩
   ·rw [catT,lenS];simp [lenN,g1]
   ·rw [catT,codeS];simp [codeN,g3]
  | alt l h2 hs =>
   obtain ⟨ad,us,rfl,hu⟩:=shU_mk (show shU v=.mk 5 [] 0 0 false (unfSs l) from hv)
   have hsub:=((simpB_iff _ _).1 hsi).2.2
   obtain ⟨g1,g2,g3,g4⟩:=codes_eq hu fun x hx=>ih x hx (hs x hx) _ (hsub x hx)
   refine ⟨?_,fun b=>?_⟩
   ·rw [lenN_eq,altT,lenS]
    show (if (5:Int)=2∨(5:Int)=3 then 1 else if (5:Int)=7∨(5:Int)=-2 then lensN us+2 else if (5:Int)=5 then lensN us+2*(us.length - 1) else _)=_
    rw [g1,g2];simp
   ·rw [codeN_eq,altT,codeS]
    show (if (5:Int)=2 then _ else if (5:Int)=3 then _ else if (5:Int)=7 then _ else if (5:Int)=5 then altN us b (b+(lensN us+2*(us.length - 1))) else _)=_
    rw [g1,g2,g4];simp
  | group x i nm hx h0 h1 hm =>
   obtain ⟨ad,us,rfl,hu⟩:=shU_mk (show shU v=.mk 7 [] 0 i false (unfSs [x]) from hv)
   have hsub:=((simpB_iff _ _).1 hsi).2.2
   obtain ⟨g1,g2,g3,g4⟩:=codes_eq hu fun y hy=>ih y hy (by rw [zzE] at hy;rw [hy];exact hx) _ (hsub y hy)
   refine ⟨?_,fun b=>?_⟩
   ·rw [lenN_eq,groupT,lenS]
    show (if (7:Int)=2∨(7:Int)=3 then 1 else if (7:Int)=7∨(7:Int)=-2 then lensN us+2 else _)=_
    rw [g1];simp
   ·rw [codeN_eq,groupT,codeS]
    show (if (7:Int)=2 then _ else if (7:Int)=3 then _ else if (7:Int)=7 then (⟨3,(b+1:Nat),0,2*i,[]⟩ :: (codesN us (b+1)++[⟨3,(b+1+lensN us+1:Nat),0,2*i+1,[]⟩]):List Ins) else _)=_
    rw [g1,g3];simp
  | rep x n m z hx h0 h1 hm =>
   obtain ⟨hsx,hnm⟩:=simp_rep hsi h0 hm
   have hux:∀ w,shU w=unfS x→CodeEq w x:=ih x (zzv _) hx _ hsx
   rcases hnm with ⟨rfl,rfl⟩ | ⟨rfl,rfl⟩ | ⟨rfl,rfl⟩
   ·obtain ⟨ad,us,rfl,hu⟩:=shU_mk (show shU v=.mk 4 [] 0 0 false [loopU (-1) z (unfS x)] from hv)
    obtain ⟨q,l',rfl,hq,hl'⟩:=shUs_cons hu
    obtain rfl:=shUs_nil hl'
    obtain ⟨ad2,us2,rfl,hu2⟩:=shU_mk hq
    obtain ⟨w,l2,rfl,hw,hl2⟩:=shUs_cons hu2
    obtain rfl:=shUs_nil hl2
    obtain ⟨g1,g2⟩:=hux w hw
    refine ⟨?_,fun b=>?_⟩
    ·rw [repT,lenS];simp [lenN,lensN,lensS,g1]
    ·rw [repT,codeS];simp [codeN,codesN,codesS,lensN,lensS,g1,g2]
   ·obtain ⟨ad2,us2,rfl,hu2⟩:=shU_mk (show shU v=.mk (-2) [] 0 0 z [unfS x] from hv)
    obtain ⟨w,l2,rfl,hw,hl2⟩:=shUs_cons hu2
    obtain rfl:=shUs_nil hl2
    obtain ⟨g1,g2⟩:=hux w hw
    refine ⟨?_,fun b=>?_⟩
    ·rw [repT,lenS];simp [lenN,lensN,lensS,g1]
    ·rw [repT,codeS];simp [codeN,codesN,codesS,lensN,lensS,g1,g2]
   ·obtain ⟨ad,us,rfl,hu⟩:=shU_mk (show shU v=.mk 4 [] 0 0 false [loopU (-3) z (unfS x)] from hv)
    obtain ⟨q,l',rfl,hq,hl'⟩:=shUs_cons hu
    obtain rfl:=shUs_nil hl'
    obtain ⟨ad2,us2,rfl,hu2⟩:=shU_mk hq
    obtain ⟨w,l2,rfl,hw,hl2⟩:=shUs_cons hu2
    obtain rfl:=shUs_nil hl2
    obtain ⟨g1,g2⟩:=hux w hw
    refine ⟨?_,fun b=>?_⟩
    ·rw [repT,lenS];simp [lenN,lensN,lensS,g1]
    ·rw [repT,codeS];simp [codeN,codesN,codesS,lensN,lensS,g1,g2]
theorem lay_of {s:Tr.Tr} {v:Un} {c:Int} (hall:allB s=true) (hsi:simpB s 0=true) (hv:v=mkV (unfS s) 0):Lay (fun i=>(⟨progL s,0,c⟩:Prg).insts[i]?) (posB v 1) (lenS s+1):=by
 have hsh:shU v=unfS s:=by rw [hv];exact mkV_sh _ _
 obtain ⟨g1,g2⟩:=code_eq s hall 0 hsi v hsh
 have hw:∀ n∈v.all,nodeW n:=ru_nodes v (by rw [hsh];exact ru_unf s hall)
 have hnd:((posB v 1).map fun q=>q.1.ad).Nodup:=by
  rw [posB_ads,hv,mkV_ads];exact List.nodup_range'
 have hins:∀ i:Nat,(⟨progL s,0,c⟩:Prg).insts[i]?=(⟨3,(1:Nat),0,0,[]⟩ :: (codeS s 1++[⟨3,(lenS s+2:Nat),0,1,[]⟩,⟨5,0,0,0,[]⟩]):List Ins)[i]?:=fun i=>rfl
 refine ⟨?_,fun q hq=>hw _ (pos_node hq),fun q hq=>?_,fun q hq r hr e=>nodup_one hnd hq hr e,fun q hq r hr i hi hj=>own_one v 1 hw q hq r hr i hi hj,?_,?_⟩
 ·refine loc_all v 1 hw (fun _ h=>h) ?_
  intro j x hx
  show (⟨progL s,0,c⟩:Prg).insts[1+j]?=some x
  rw [hins,Nat.add_comm 1 j,zzX,List.getElem?_append_left,←g2,hx]
  rw [←g2];exact (zzK.1 hx).1
 ·have:=pos_node hq
  rw [hv] at this
  exact mkV_nm _ _ _ this
 ·show (⟨progL s,0,c⟩:Prg).insts[lenS s+1]?=_
  rw [hins,zzX,zzz (by rw [code_length];exact zzF _),code_length,Nat.sub_self];rfl
 ·show (⟨progL s,0,c⟩:Prg).insts[lenS s+1+1]?=_
  rw [hins,zzX,zzz (by rw [code_length];omega),code_length,show lenS s+1 - lenS s=1 from by omega];rfl
theorem first_done {s:Tr.Tr} {c:Int} (hall:allB s=true) (hsi:simpB s 0=true) {t:List Int} {b:Nat} {s':St}
  (h:One t b st0 (.beg (mkV (unfS s) 0) b (List.replicate c.toNat (-1)) .top) s'):∃ M',DOne ⟨progL s,0,c⟩ t (fun _ _=>false) (List.replicate c.toNat (-1)) (0,b) M' (s'.out.head?.map fun q=>(q.2,0)):=by
 obtain ⟨v,hv⟩:∃ v,v=mkV (unfS s) 0:=⟨_,rfl⟩
 rw [←hv] at h
 have L:=lay_of (c:=c) hall hsi hv
 have hlen:lenN v=lenS s:=(code_eq s hall 0 hsi v (by rw [hv];exact mkV_sh _ _)).1
 have h0:(⟨progL s,0,c⟩:Prg).insts[0]?=some ⟨3,(1:Nat),0,0,[]⟩:=rfl
 have hI:Inv (fun i=>(⟨progL s,0,c⟩:Prg).insts[i]?) (posB v 1) (lenS s+1) t st0 (setM (fun _ _=>false) 0 b) (some (1,b)) 0 []:=by
  refine ⟨fun q _ k hm=>absurd rfl hm,fun q _ k hm=>absurd rfl hm,fun q hq i hi k hm=>?_,fun i k x hx hx2 hm r hr=>?_,fun r hr=>(nomatch hr),fun k=>?_⟩
  ·exfalso
   obtain ⟨x,hx,ho⟩:=L.own_op hq hi
   rcases setM_iff.1 hm with hm | ⟨rfl,rfl⟩
   ·cases hm
   ·have hx:(⟨progL s,0,c⟩:Prg).insts[0]?=some x:=hx
    rw [h0] at hx
    simp only [zzd] at hx
    subst hx
    simp at ho
  ·rcases setM_iff.1 hm with hm | ⟨rfl,rfl⟩
   ·cases hm
   ·have hx:(⟨progL s,0,c⟩:Prg).insts[0]?=some x:=hx
    rw [h0] at hx
    simp only [zzd] at hx
    subst hx
    rw [nexts_cap,zzE] at hr
    exact .inr (by rw [hr])
  ·unfold setM;simp
 have hcn:Cn (fun i=>(⟨progL s,0,c⟩:Prg).insts[i]?) (posB v 1) (lenS s+1) [.b v] 1 0:=.b (posB_self v 1) (zzZ _) (by rw [hlen,Nat.add_comm];exact .top)
 have hf:OneF t b st0 (goF [.b v] b (List.replicate c.toNat (-1))) s':=one_f h
 obtain ⟨M',r,hd,hr⟩:=run_task L hf [.b v] 1 0 b (List.replicate c.toNat (-1)) (setM (fun _ _=>false) 0 b) [] hcn rfl hI rfl
 have hd0:DOne ⟨progL s,0,c⟩ t (fun _ _=>false) (List.replicate c.toNat (-1)) (0,b) M' r:=by
  refine .step (q:=(0,b)) rfl h0 (by simp) ?_
  rw [nexts_cap,show capsAt ⟨3,(1:Nat),0,0,[]⟩ b (List.replicate c.toNat (-1))=(List.replicate c.toNat (-1)).set 0 (b:Int) from by unfold capsAt;rw [if_pos rfl];rfl]
  exact .one _ t hd
 refine ⟨M',?_⟩
 cases r with
 | none=>rw [hr.1];exact hd0
 | some w =>
  obtain ⟨h1,e',l,h2⟩:=hr
  rw [h2]
  have hw:w=(w.1,0):=by rw [←h1]
  rw [hw] at hd0
  exact hd0
theorem prog_done {tr:Tr.Tr} {c:Int} (hall:allB tr=true) {t:List Int} {b:Nat} (hb:b≤t.length) {u:Un} (hsu:shU u=unfS tr) (hu:(u.all.map Un.ad).Nodup) {s':St}
  (h:One t b st0 (.beg u b (List.replicate c.toNat (-1)) .top) s'):∃ M',DOne ⟨progL (simpleS tr),0,c⟩ t (fun _ _=>false) (List.replicate c.toNat (-1)) (0,b) M' (s'.out.head?.map fun q=>(q.2,0)):=by
 obtain ⟨halls,hsi⟩:=simple_good tr hall
 obtain ⟨s2,h2⟩:=run_ex (t:=t) (at_:=b) (nt:=List.replicate c.toNat (-1)) (mkV (unfS (simpleS tr)) 0) hb
 have e:=simple_out hall halls hb hsu (mkV_sh (unfS (simpleS tr)) 0) hu (by rw [mkV_ads];exact List.nodup_range') h h2
 rw [e]
 exact first_done halls hsi h2
theorem prog_means {tr:Tr.Tr} {c:Int} (hall:allB tr=true) (hc:checkB ⟨progL (simpleS tr),0,c⟩=true) {t:List Int} {b:Nat} (hb:b≤t.length) {u:Un} (hsu:shU u=unfS tr) (hu:(u.all.map Un.ad).Nodup) {s':St}
  (h:One t b st0 (.beg u b (List.replicate c.toNat (-1)) .top) s'):oneR ⟨progL (simpleS tr),0,c⟩ t b=s'.out.head?.map fun q=>(q.2,0):=by
 obtain ⟨M',hd⟩:=prog_done (c:=c) hall hb hsu hu h
 exact oneAt_is (p:=⟨progL (simpleS tr),0,c⟩) hc hb hd
end Mean
end Go.Proofs.YtgkclnmmjedmkaaGreat
