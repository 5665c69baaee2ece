/- runes.Right -/
import Derived.Handy
import Derived.BigQuiet
import Derived.Deep.QuietTactic
import Derived.Test.YtgkclnmmjedmkaaGreatP00
import Derived.Test.YtgkclnmmjedmkaaGreatP01
set_option maxRecDepth 100000
set_option maxHeartbeats 2000000
namespace Go.Proofs.YtgkclnmmjedmkaaGreat
open Go.RowKit
def okx (x:Int × Int):Bool:=dom x.1 && dom x.2 && decide (x.1≤x.2) && !(decide (x.1 < 55296) && decide (57343 < x.2))
def okAt (l:List (Int × Int)) (j:Nat):Bool :=
 match l[j]? with
 | none=>true
 | some x=>okx x && (j==0 || match l[j - 1]? with | none=>true | some y=>decide (y.2+1 < x.1))
def clsB (l:List (Int × Int)):Bool:=(List.range l.length).all (okAt l)
def rightB (l:List (Int × Int)):Bool:=decide (l.length≤5000) && clsB l
theorem cls_no {l:List (Int × Int)} {j:Nat} (hj:j < l.length) (h:okAt l j=false):rightB l=false:=by
 unfold rightB clsB
 rw [show (List.range l.length).all (okAt l)=false from by rw [List.all_eq_false];exact ⟨j,by simpa using hj,by simp [h]⟩,Bool.and_false]
theorem cls_yes {l:List (Int × Int)} (hl:l.length≤5000) (h:∀ j,j < l.length→okAt l j=true):rightB l=true:=by
 unfold rightB clsB
 rw [decide_eq_true hl,Bool.true_and,List.all_eq_true]
 intro j hj
 exact h j (by simpa using hj)
theorem right_any (A:Option Addr) (n c:Nat) (l:List (Int × Int)) (w:World) (hr:Reads w w.heap.size 2 A n c (flat l)) :
  Calls Tryz.prog 60 #[.slice A n c] w fun e w'=>e=.returned (.bool (rightB l))∧Below w.heap.size w w':=by
 obtain ⟨B,hB⟩:∃ B,B=w.heap.size:=⟨_,rfl⟩
 rw [←hB] at hr
 rw [←hB]
 have hBs:B≤w.heap.size:=by omega
 have hlen:l.length=n:=by have:=hr.len;rw [flat_length] at this;omega
 have HLEN:=zzA hlen
 have hnc:=hr.le
 have hcap:=hr.cap
 have HR:=zzA hr
 clear hB hlen hr
 by_cases hbig:5000 < n
 ·have HF:=zzA (show rightB l=false from by unfold rightB;rw [decide_eq_false (by have:=HLEN.out;omega)];rfl)
  go_enter Tryz.func60,Tryz.ntmps60
  go_wp2_with fail
  go_ret
  exact ⟨ret_bool HF.out.symm,zzb _ _⟩
 have hn5:n≤5000:=by omega
 go_enter Tryz.func60,Tryz.ntmps60
 go_wp2_with fail
 go_loopw [10] (fun p wr=>∃ i:Nat,i≤n∧p=.int .i64 i∧(∀ j,j < i→okAt l j=true)∧Below B w wr) (fun p _=>n - (intOf p).toNat)
 case atStart=>exact ⟨0,zzZ _,rfl,fun j hj=>absurd hj (by omega),zzb _ _⟩
 case round =>
  obtain ⟨i,hi1,rfl,hok,hbel⟩:=hrel
  have hszr:B≤wr.heap.size:=by have:=hbel.size;omega
  have HOK:=zzA hok
  clear hok
  by_cases hlt:i < n
  ·obtain ⟨x,hx⟩:∃ x,l[i]?=some x:=⟨_,zzJ (by have:=HLEN.out;omega)⟩
   obtain ⟨b,off,rfl,hb,hcell⟩:=(HR.out.below hbel).at_ (by omega)
   have hc1:wr.cell? ⟨b,off+i*2,none⟩=some (.int .i64 x.1):=hcell _ _ (flat_get l i x hx).1
   have hc2:wr.cell? ⟨b,off+i*2+1,none⟩=some (.int .i64 x.2):=by rw [zzy];exact hcell _ _ (flat_get l i x hx).2
   have HX:=zzA hx
   have HC:=zzA hcell
   obtain ⟨x1,x2⟩:=x
   have hbe1:=hbel.alloc hszr (.cells #[.int .i64 x1,.int .i64 x2] 91)
   have HNO:=zzA (show okAt l i=false→rightB l=false from fun h=>cls_no (by have:=HLEN.out;omega) h)
   have HBAD:=zzA (show okx (x1,x2)=false→rightB l=false from fun h=>HNO.out (by unfold okAt;rw [HX.out];simp [h]))
   clear hcell hx
   cases hd1:dom x1 with
   | false =>
    have HF:=zzA (HBAD.out (by simp [okx,hd1]))
    go_wp2_with (go_at_call 89;refine (domain_any _ _).mono ?_;rintro e w' ⟨rfl,rfl⟩;rw [hd1])
    go_ret
    exact ⟨ret_bool HF.out.symm,hbe1⟩
   | true =>
   cases hd2:dom x2 with
   | false =>
    have HF:=zzA (HBAD.out (by simp [okx,hd2]))
    go_wp2_with (go_at_call 89;refine (domain_any _ _).mono ?_;rintro e w' ⟨rfl,rfl⟩;first | rw [hd1] | rw [hd2])
    go_ret
    exact ⟨ret_bool HF.out.symm,hbe1⟩
   | true =>
   by_cases g1:x2 < x1
   ·have HF:=zzA (HBAD.out (by simp [okx];omega))
    go_wp2_with (go_at_call 89;refine (domain_any _ _).mono ?_;rintro e w' ⟨rfl,rfl⟩;first | rw [hd1] | rw [hd2])
    go_ret
    exact ⟨ret_bool HF.out.symm,hbe1⟩
   have hx0:0≤x1∧x1≤1114111:=by simp only [dom,zzg] at hd1;omega
   have hx3:x2≤1114111:=by simp only [dom,zzg] at hd2;omega
   by_cases g2:x1 < 55296∧57343 < x2
   ·obtain ⟨g2,g3⟩:=g2
    have HF:=zzA (HBAD.out (by simp [okx,g2,g3]))
    go_wp2_with (go_at_call 89;refine (domain_any _ _).mono ?_;rintro e w' ⟨rfl,rfl⟩;first | rw [hd1] | rw [hd2])
    go_ret
    exact ⟨ret_bool HF.out.symm,hbe1⟩
   have HOX:=zzA (show okx (x1,x2)=true from by simp only [okx,hd1,hd2];simp;omega)
   obtain ⟨hx0,hx1⟩:=hx0
   have HXX:=zzA (show ∀ wq:World,True from fun _=>trivial)
   rcases Nat.eq_zero_or_pos i with h0 | h0
   ·subst h0
    rw [Nat.zero_mul,Nat.add_zero] at hc1 hc2
    have HAT:=zzA (show okAt l 0=true from by unfold okAt;rw [HX.out];simp [HOX.out])
    have hd0:decide ((0:Int) < ((0:Nat):Int))=false:=rfl
    have hd0':decide ((0:Int) < 0)=false:=rfl
    by_cases g3:x1 < 55296
    all_goals
     go_wp2_with (go_at_call 89;refine (domain_any _ _).mono ?_;rintro e w' ⟨rfl,rfl⟩;first | rw [hd1] | rw [hd2])
     go_quiet (fail)
     go_wp2_with fail
     go_roundw
     case rel=>exact ⟨1,by omega,by go_num,fun j hj=>(show j=0 from by omega) ▸ HAT.out,bdrewN hbe1 nq⟩
     case measure=>simp [intOf];omega
   ·obtain ⟨y,hy⟩:∃ y,l[i - 1]?=some y:=⟨_,zzJ (by have:=HLEN.out;omega)⟩
    have hc3:wr.cell? ⟨b,off+((i - 1)*2+1),none⟩=some (.int .i64 y.2):=HC.out _ _ (flat_get l (i - 1) y hy).2
    have hyk:okx y=true:=by
     have:=HOK.out (i - 1) (by omega)
     unfold okAt at this
     rw [hy] at this
     simp only [zzc] at this
     exact this.1
    have HY:=zzA hy
    obtain ⟨y1,y2⟩:=y
    have hy2:0≤y2∧y2≤1114111:=by simp only [okx,dom,zzc,zzg] at hyk;omega
    obtain ⟨hy2,hy3⟩:=hy2
    clear hy hyk
    have hd0:decide ((0:Int) < (i:Int))=true:=decide_eq_true (by omega)
    have hi0:((i:Int) - 1).toNat=i - 1:=by omega
    have hi2:0≤(i:Int) - 1:=by omega
    have hi3:(i:Int) - 1 < n:=by omega
    have hc4:(wr.alloc (.cells #[.int .i64 x1,.int .i64 x2] 91)).cell? ⟨b,off+(i - 1)*2+1,none⟩=some (.int .i64 y2):=by
     rw [zzy];exact (World.cell?_alloc_lt wr _ ⟨b,off+((i - 1)*2+1),none⟩ (by simp;omega)).trans hc3
    have hxc1:(wr.alloc (.cells #[.int .i64 x1,.int .i64 x2] 91)).cell? ⟨wr.heap.size,0,none⟩=some (.int .i64 x1):=by go_simp
    clear hc3
    by_cases g4:x1≤y2+1
    ·have HF:=zzA (HNO.out (by unfold okAt;rw [HX.out];simp only [HY.out,HOX.out,Bool.true_and];simp;omega))
     have hd4:decide (x1≤y2+1)=true:=decide_eq_true g4
     by_cases g3:x1 < 55296
     all_goals
      go_wp2_with (go_at_call 89;refine (domain_any _ _).mono ?_;rintro e w' ⟨rfl,rfl⟩;first | rw [hd1] | rw [hd2])
      go_quiet (fail)
      go_wp2_with fail
      go_ret
      exact ⟨ret_bool HF.out.symm,bdrewN hbe1 nq⟩
    ·have HAT:=zzA (show okAt l i=true from by unfold okAt;rw [HX.out];simp only [HY.out,HOX.out,Bool.true_and];simp;omega)
     have HOR:=zzA (show ∀ j,j < i+1→okAt l j=true from fun j hj=>by
      rcases Nat.lt_or_ge j i with h | h
      ·exact HOK.out j h
      ·exact (show j=i from by omega) ▸ HAT.out)
     have hd4:decide (x1≤y2+1)=false:=decide_eq_false g4
     by_cases g3:x1 < 55296
     all_goals
      go_wp2_with (go_at_call 89;refine (domain_any _ _).mono ?_;rintro e w' ⟨rfl,rfl⟩;first | rw [hd1] | rw [hd2])
      go_quiet (fail)
      go_wp2_with fail
      go_roundw
      case rel=>exact ⟨i+1,by omega,by go_num,HOR.out,bdrewN hbe1 nq⟩
      case measure=>simp [intOf];omega
  ·obtain rfl:i=n:=by omega
   have HT:=zzA (show rightB l=true from cls_yes (by have:=HLEN.out;omega) (fun j hj=>HOK.out j (by have:=HLEN.out;omega)))
   go_wp2_with fail
   go_ret
   exact ⟨ret_bool HT.out.symm,hbel⟩
end Go.Proofs.YtgkclnmmjedmkaaGreat
namespace Go.Proofs.YtgkclnmmjedmkaaGreat.Tr
inductive Tr where
 | mk (kind:Int) (rng:List (Int × Int)) (ast:Int) (subs:List Tr) (mn mx:Int) (lz:Bool) (ix:Int) (nm:ByteArray)
def Tr.kind:Tr→Int | .mk k _ _ _ _ _ _ _ _=>k
def Tr.subs:Tr→List Tr | .mk _ _ _ s _ _ _ _ _=>s
def Tr.mn:Tr→Int | .mk _ _ _ _ n _ _ _ _=>n
def Tr.mx:Tr→Int | .mk _ _ _ _ _ m _ _ _=>m
def Tr.lz:Tr→Bool | .mk _ _ _ _ _ _ z _ _=>z
theorem Tr.ind {P:Tr→Prop} (h:∀ t,(∀ s∈t.subs,P s)→P t):∀ t,P t:=fun t =>
 Tr.rec (motive_1:=P) (motive_2:=fun l=>∀ s∈l,P s) (fun k r a l n m z i s ih=>h (.mk k r a l n m z i s) ih) (by simp) (fun a l ha hl=>by intro s hs;rcases zzN.1 hs with rfl | hs;exact ha;exact hl s hs) t
mutual
def size:Tr→Nat
 | .mk _ _ _ l _ _ _ _ _=>sizes l+1
def sizes:List Tr→Nat
 | []=>0
 | t :: l=>size t+sizes l
end
mutual
def deep:Tr→Nat
 | .mk _ _ _ l _ _ _ _ _=>deeps l+1
def deeps:List Tr→Nat
 | []=>0
 | t :: l=>max (deep t) (deeps l)
end
theorem size_pos (t:Tr):1≤size t:=by cases t;rw [size];omega
theorem deep_pos (t:Tr):1≤deep t:=by cases t;rw [deep];omega
def letterB (c:UInt8):Bool:=(decide (97≤c.toNat) && decide (c.toNat≤122)) || (decide (65≤c.toNat) && decide (c.toNat≤90)) || c.toNat==95
def digitB (c:UInt8):Bool:=decide (48≤c.toNat) && decide (c.toNat≤57)
def nameB (s:ByteArray):Bool:=decide (1≤s.size) && decide (s.size≤32) && (s.data.toList.all fun c=>letterB c || digitB c) && !(digitB (s.data.toList.getD 0 0))
def noName (s:ByteArray):Bool:=decide (s.size=0)
def assertB (n:Int):Bool:=n==1 || n==2 || n==4 || n==8 || n==16 || n==32
def zeroB (r:List (Int × Int)) (a n m:Int) (z:Bool) (i:Int) (s:ByteArray):Bool:=r.isEmpty && (a==0 && (n==0 && (m==0 && (!z && (i==0 && noName s)))))
def nodeF (k:Int) (r:List (Int × Int)) (a:Int) (q:Nat) (n m:Int) (z:Bool) (i:Int) (s:ByteArray):Bool :=
 if k=1 then zeroB r a n m z i s && q==0
 else if k=2 then zeroB [] a n m z i s && (q==0 && rightB r)
 else if k=3 then zeroB r 0 n m z i s && (q==0 && assertB a)
 else if k=4 then zeroB r a n m z i s && decide (2≤q)
 else if k=5 then zeroB r a n m z i s && decide (2≤q)
 else if k=6 then zeroB r a 0 0 false i s && (q==1 && (decide (0≤n) && (decide (n≤1000) && (m==-1 || (decide (n≤m) && decide (m≤1000))))))
 else if k=7 then zeroB r a n m z 0 .empty && (q==1 && (decide (1≤i) && (decide (i≤500) && (noName s || nameB s))))
 else false
def nodeB:Tr→Bool
 | .mk k r a l n m z i s=>nodeF k r a l.length n m z i s
mutual
def allB:Tr→Bool
 | .mk k r a l n m z i s=>nodeB (.mk k r a l n m z i s) && allsB l
def allsB:List Tr→Bool
 | []=>true
 | t :: l=>allB t && allsB l
end
theorem allsB_iff:∀ l:List Tr,allsB l=true ↔ ∀ t∈l,allB t=true
 | []=>by simp [allsB]
 | t :: l=>by rw [allsB,zzc,allsB_iff l];simp
theorem allB_iff (t:Tr):allB t=true ↔ nodeB t=true∧∀ s∈t.subs,allB s=true:=by
 cases t with
 | mk k r a l n m z i s=>rw [allB,zzc,allsB_iff];rfl
def soundB (t:Tr):Bool:=allB t && decide (deep t≤10000) && decide (size t≤200000)
end Go.Proofs.YtgkclnmmjedmkaaGreat.Tr
namespace Go.Proofs.YtgkclnmmjedmkaaGreat
def memB (l:List (Int × Int)) (r:Int):Bool:=l.any fun x=>decide (x.1≤r∧r≤x.2)
end Go.Proofs.YtgkclnmmjedmkaaGreat
namespace Go.Proofs.YtgkclnmmjedmkaaGreat.Mach
structure Ins where
 op:Int
 x:Int
 y:Int
 arg:Int
 rng:List (Int × Int)
structure Prg where
 insts:List Ins
 start:Int
 caps:Int
def isAs (a:Int):Bool:=a==1 || a==2 || a==4 || a==8 || a==16 || a==32
def mayB (i:Ins) (n caps:Int):Bool :=
 if i.op=1 then decide (0≤i.x∧i.x < n∧i.y=0∧i.arg=0∧i.rng≠[]) && rightB i.rng
 else if i.op=2 then decide (0≤i.x∧i.x < n∧0≤i.y∧i.y < n∧i.arg=0∧i.rng=[])
 else if i.op=3 then decide (0≤i.x∧i.x < n∧i.y=0∧0≤i.arg∧i.arg < caps∧i.rng=[])
 else if i.op=4 then decide (0≤i.x∧i.x < n∧i.y=0∧i.rng=[]) && isAs i.arg
 else if i.op=5 then decide (i.x=0∧i.y=0∧0≤i.arg∧i.arg < 100∧i.rng=[])
 else if i.op=6 then decide (i.x=0∧i.y=0∧i.arg=0∧i.rng=[])
 else if i.op=7 then decide (0≤i.x∧i.x < n∧i.y=0∧i.arg=0∧i.rng=[])
 else false
def headB (n start caps:Int):Bool:=decide (1≤n∧n≤20000∧0≤start∧start < n∧2≤caps∧caps≤1002∧caps % 2=0)
def checkB (p:Prg):Bool:=headB p.insts.length p.start p.caps && p.insts.all fun i=>mayB i p.insts.length p.caps
def chkE (p:Prg):Int:=if checkB p then 0 else 90
def hb (t:List Int) (k:Nat):Nat→Bool
 | 0=>decide (k=0)
 | 1=>decide (k=t.length)
 | 2=>decide (k=0) || t.getD (k - 1) 0==10
 | 3=>decide (k=t.length) || t.getD k 0==10
 | 4=>(!decide (k=0) && word (t.getD (k - 1) 0)) != (!decide (k=t.length) && word (t.getD k 0))
 | _=>!((!decide (k=0) && word (t.getD (k - 1) 0)) != (!decide (k=t.length) && word (t.getD k 0)))
def sumB (f:Nat→Bool):Nat→Nat
 | 0=>0
 | j+1=>sumB f j+(if f j then 2 ^ j else 0)
theorem sumB_lt (f:Nat→Bool):∀ j,sumB f j < 2 ^ j
 | 0=>by simp [sumB]
 | j+1=>by have:=sumB_lt f j;rw [sumB,Nat.pow_succ];split <;> omega
def atBits (t:List Int) (k:Nat):Int:=(sumB (hb t k) 6:Nat)
theorem atBits_bd (t:List Int) (k:Nat):0≤atBits t k∧atBits t k < 64:=by
 have:=sumB_lt (hb t k) 6
 unfold atBits;omega
def asB (t:List Int) (k:Nat) (a:Int):Bool:=decide (atBits t k / a % 2=1)
inductive Job where
 | pair (i k:Nat)
 | back (c:Nat) (old:Int)
structure MS where
 todo:List Job
 met:List Bool
 caps:List Int
 steps:Nat
 fin:Option Int
section
variable (p:Prg) (t:List Int) (at_:Nat)
def places:Nat:=t.length - at_+1
def bitOf (i k:Nat):Nat:=i*places t at_+(k - at_)
def eff (x:Ins) (k:Nat) (s:MS):MS :=
 if x.op=1 then (if k < t.length∧memB x.rng (t.getD k 0)=true then { s with todo:=.pair x.x.toNat (k+1) :: s.todo } else s)
 else if x.op=2 then { s with todo:=.pair x.x.toNat k :: .pair x.y.toNat k :: s.todo }
 else if x.op=3 then { s with todo:=.pair x.x.toNat k :: .back x.arg.toNat (s.caps.getD x.arg.toNat 0) :: s.todo,caps:=s.caps.set x.arg.toNat k }
 else if x.op=4 then (if asB t k x.arg then { s with todo:=.pair x.x.toNat k :: s.todo } else s)
 else if x.op=5 then { s with fin:=some x.arg }
 else if x.op=7 then { s with todo:=.pair x.x.toNat k :: s.todo }
 else s
def mstep (s:MS):MS :=
 match s.fin,s.todo with
 | some _,_=>s
 | none,[]=>s
 | none,.back c old :: r=>{ s with todo:=r,caps:=s.caps.set c old }
 | none,.pair i k :: r =>
  if s.met.getD (bitOf t at_ i k) true then { s with todo:=r }
  else match p.insts[i]? with
   | none=>{ s with todo:=r }
   | some x=>eff t x k { s with todo:=r,met:=s.met.set (bitOf t at_ i k) true,steps:=s.steps+1 }
def halted (s:MS):Prop:=s.fin≠none∨s.todo=[]
def unmet (s:MS):Nat:=s.met.count false
def meas (s:MS):Nat:=3*unmet s+s.todo.length+(if s.fin=none then 1 else 0)
def iter:Nat→MS→MS
 | 0,s=>s
 | n+1,s=>iter n (mstep p t at_ s)
theorem iter_succ' (n:Nat) (s:MS):iter p t at_ (n+1) s=mstep p t at_ (iter p t at_ n s):=by
 induction n generalizing s with
 | zero=>rfl
 | succ n ih=>rw [iter,ih];rfl
theorem halt_stay {s:MS} (h:halted s):mstep p t at_ s=s:=by
 unfold mstep
 rcases h with h | h
 ·split
  ·rfl
  ·exact absurd ‹_› h
  ·exact absurd ‹_› h
  ·exact absurd ‹_› h
 ·rw [h]
  split <;> first | rfl | (rename_i h2;cases h2)
theorem halt_iter {s:MS} (h:halted s) (n:Nat):iter p t at_ n s=s:=by
 induction n with
 | zero=>rfl
 | succ n ih=>rw [iter,halt_stay p t at_ h,ih]
theorem count_set {l:List Bool} {q:Nat} (h:l.getD q true=false):(l.set q true).count false+1=l.count false:=by
 induction l generalizing q with
 | nil=>simp at h
 | cons b l ih =>
  cases q with
  | zero=>simp at h;subst h;simp
  | succ q =>
   have:=ih (q:=q) (by simpa using h)
   rw [zzC,List.count_cons,List.count_cons]
   omega
theorem eff_meas (x:Ins) (k:Nat) (s:MS) (h:s.fin=none):meas (eff t x k s)≤meas s+2∧unmet (eff t x k s)=unmet s:=by
 unfold eff
 refine ⟨?_,?_⟩
 ·repeat' split
  all_goals simp only [meas,unmet,h,zzO,if_true]
  all_goals first | omega | (simp only [reduceCtorEq,if_false];omega)
 ·repeat' split
  all_goals rfl
theorem step_less {s:MS} (h:¬halted s):meas (mstep p t at_ s) < meas s:=by
 unfold halted at h
 obtain ⟨todo,met,caps,steps,fin⟩:=s
 simp only [not_or,ne_eq,Classical.not_not] at h
 obtain ⟨rfl,h2⟩:=h
 unfold mstep
 match todo,h2 with
 | .back c old :: r,_=>simp [meas,unmet]
 | .pair i k :: r,_ =>
  simp only []
  split
  ·simp [meas,unmet]
  ·rename_i hm
   have hm:met.getD (bitOf t at_ i k) true=false:=by simpa using hm
   split
   ·simp [meas,unmet]
   ·have hc:=count_set hm
    refine Nat.lt_of_le_of_lt (eff_meas t _ k _ rfl).1 ?_
    simp only [meas,unmet,if_true,zzO]
    omega
theorem iter_halts (s:MS):∀ n,meas s≤n→halted (iter p t at_ n s):=by
 intro n
 induction n generalizing s with
 | zero =>
  intro h
  unfold meas at h
  refine .inr ?_
  have:s.todo.length=0:=by omega
  exact zzq this
 | succ n ih =>
  intro h
  by_cases hh:halted s
  ·rw [halt_iter p t at_ hh];exact hh
  ·rw [iter]
   exact ih _ (by have:=step_less p t at_ hh;omega)
def final (s:MS):MS:=iter p t at_ (meas s) s
theorem final_of {s:MS} {n:Nat} (h:halted (iter p t at_ n s)):iter p t at_ n s=final p t at_ s:=by
 have h2:halted (iter p t at_ (meas s) s):=iter_halts p t at_ s _ (zzF _)
 have add:∀ a b s,iter p t at_ (a+b) s=iter p t at_ b (iter p t at_ a s):=fun a b s=>by
  induction a generalizing s with
  | zero=>rw [zzw];rfl
  | succ a ih=>rw [Nat.succ_add,iter,ih];rfl
 unfold final
 rcases Nat.le_total n (meas s) with g | g
 ·rw [show meas s=n+(meas s - n) from by omega,add,halt_iter p t at_ h]
 ·rw [show n=meas s+(n - meas s) from by omega,add,halt_iter p t at_ h2]
def begin_ (b:Nat) (met:List Bool) (steps:Nat):MS:=⟨[.pair p.start.toNat b],met,List.replicate p.caps.toNat (-1),steps,none⟩
def search (anch:Bool):Nat→Nat→List Bool→Nat→Option (List Int × Int) × Nat
 | 0,_,_,steps=>(none,steps)
 | n+1,b,met,steps =>
  let f:=final p t at_ (begin_ p b met steps)
  match f.fin with
  | some w=>(some (f.caps,w),f.steps)
  | none=>if anch then (none,f.steps) else search anch n (b+1) f.met f.steps
end
def runR (p:Prg) (t:List Int) (a:Int) (anch:Bool):Int × Option (List Int × Int) × Nat :=
 if 4194304 < t.length then (2,none,0)
 else if checkB p=false then (90,none,0)
 else if a < 0∨(t.length:Int) < a then (1,none,0)
 else if 16777216 < p.insts.length*(t.length - a.toNat+1) then (3,none,0)
 else (0,search p t a.toNat anch (t.length+1 - a.toNat) a.toNat (List.replicate (p.insts.length*places t a.toNat) false) 0)
end Go.Proofs.YtgkclnmmjedmkaaGreat.Mach
namespace Go.Proofs.YtgkclnmmjedmkaaGreat.Mean
open Go.Proofs.YtgkclnmmjedmkaaGreat.Mach
inductive Un where
 | mk (ad:Nat) (kind:Int) (rng:List (Int × Int)) (ast ix:Int) (lz:Bool) (subs:List Un)
def Un.ad:Un→Nat | .mk a _ _ _ _ _ _=>a
def Un.kind:Un→Int | .mk _ k _ _ _ _ _=>k
def Un.rng:Un→List (Int × Int) | .mk _ _ r _ _ _ _=>r
def Un.ast:Un→Int | .mk _ _ _ a _ _ _=>a
def Un.ix:Un→Int | .mk _ _ _ _ i _ _=>i
def Un.lz:Un→Bool | .mk _ _ _ _ _ z _=>z
def Un.subs:Un→List Un | .mk _ _ _ _ _ _ l=>l
inductive Kt where
 | top
 | row (l:List Un) (K:Kt)
 | grp (i:Int) (K:Kt)
 | dec (n:Un) (K:Kt)
inductive Task where
 | beg (n:Un) (pl:Nat) (nt:List Int) (K:Kt)
 | dcd (n:Un) (pl:Nat) (nt:List Int) (K:Kt)
 | go (K:Kt) (pl:Nat) (nt:List Int)
abbrev Mark:=Nat × Nat × Bool
structure St where
 met:Mark→Nat
 out:List (Nat × List Int)
 calls:Nat
def St.mark (s:St) (m:Mark):St:=⟨fun x=>if x=m then s.met x+1 else s.met x,s.out,s.calls+1⟩
def rowT (l:List Un) (pl:Nat) (nt:List Int) (K:Kt):Task :=
 match l with
 | []=>.go K pl nt
 | s :: l=>.beg s pl nt (.row l K)
def choose (n:Un) (pl:Nat) (nt:List Int) (again K:Kt):List Task :=
 match n.subs with
 | []=>[]
 | s :: _=>if n.lz then [.go K pl nt,.beg s pl nt again] else [.beg s pl nt again,.go K pl nt]
section
variable (t:List Int) (at_:Nat)
def first (n:Un) (pl:Nat) (nt:List Int) (K:Kt):List Task :=
 if n.kind=1 then [.go K pl nt]
 else if n.kind=2 then (if pl < t.length∧memB n.rng (t.getD pl 0)=true then [.go K (pl+1) nt] else [])
 else if n.kind=3 then (if asB t pl n.ast then [.go K pl nt] else [])
 else if n.kind=4 then [rowT n.subs pl nt K]
 else if n.kind=5 then n.subs.map fun s=>.beg s pl nt K
 else if n.kind=7 then (match n.subs with | []=>[] | s :: _=>[.beg s pl (nt.set (2*n.ix).toNat pl) (.grp n.ix K)])
 else if n.kind=-1 then choose n pl nt K K
 else if n.kind=-2 then [.dcd n pl nt K]
 else if n.kind=-3 then (match n.subs with | []=>[] | s :: _=>[.beg s pl nt (.dec n K)])
 else []
def ended (s:St) (pl:Nat) (nt:List Int):St :=
 if s.out.any (fun p=>p.1==pl) then s else ⟨s.met,s.out++[(pl,(nt.set 0 at_).set 1 pl)],s.calls⟩
def work (s:St):Task→St × List Task
 | .beg n pl nt K=>(s.mark (n.ad,pl,false),if s.met (n.ad,pl,false)=0 then first t n pl nt K else [])
 | .dcd n pl nt K=>(s.mark (n.ad,pl,true),if s.met (n.ad,pl,true)=0 then choose n pl nt (.dec n K) K else [])
 | .go .top pl nt=>(ended at_ s pl nt,[])
 | .go (.row l K) pl nt=>(s,[rowT l pl nt K])
 | .go (.grp i K) pl nt=>(s,[.go K pl (nt.set (2*i+1).toNat pl)])
 | .go (.dec n K) pl nt=>(s,[.dcd n pl nt K])
mutual
inductive One:St→Task→St→Prop where
 | mk {s s':St} {k:Task}:Many (work t at_ s k).1 (work t at_ s k).2 s'→One s k s'
inductive Many:St→List Task→St→Prop where
 | nil {s:St}:Many s [] s
 | cons {s s1 s2:St} {k:Task} {l:List Task}:One s k s1→Many s1 l s2→Many s (k :: l) s2
end
end
mutual
def Un.all:Un→List Un
 | .mk a k r b i z l=>.mk a k r b i z l :: allU l
def allU:List Un→List Un
 | []=>[]
 | u :: l=>u.all++allU l
end
theorem allU_flat:∀ l:List Un,allU l=l.flatMap Un.all
 | []=>rfl
 | u :: l=>by rw [allU,allU_flat l];rfl
theorem all_subs (u:Un):u.all=u :: allU u.subs:=by cases u;rw [Un.all];rfl
def Kt.uses (U:List Un):Kt→Prop
 | .top=>True
 | .row l K=>(∀ s∈l,s∈U)∧K.uses U
 | .grp _ K=>K.uses U
 | .dec n K=>n∈U∧K.uses U
def Task.uses (U:List Un) (P:Nat):Task→Prop
 | .beg n pl _ K=>n∈U∧pl≤P∧K.uses U
 | .dcd n pl _ K=>n∈U∧pl≤P∧K.uses U
 | .go K pl _=>K.uses U∧pl≤P
def Closed (U:List Un):Prop:=∀ n∈U,∀ s∈n.subs,s∈U
def marks (U:List Un) (P:Nat):List Mark:=U.flatMap fun n=>(List.range (P+1)).flatMap fun p=>[(n.ad,p,false),(n.ad,p,true)]
def unmet (U:List Un) (P:Nat) (s:St):Nat:=(marks U P).countP fun m=>decide (s.met m=0)
theorem mark_mem {U:List Un} {P:Nat} {n:Un} (hn:n∈U) {pl:Nat} (hp:pl≤P) (b:Bool):(n.ad,pl,b)∈marks U P:=by
 refine zzs.2 ⟨n,hn,zzs.2 ⟨pl,List.mem_range.2 (by omega),?_⟩⟩
 cases b <;> simp
theorem countP_less {α:Type} {l:List α} {f g:α→Bool} (h:∀ x∈l,f x=true→g x=true) {m:α} (hm:m∈l) (hf:f m=false) (hg:g m=true):l.countP f < l.countP g:=by
 induction l with
 | nil=>cases hm
 | cons a l ih =>
  rw [List.countP_cons,List.countP_cons]
  have hle:l.countP f≤l.countP g:=List.countP_mono_left fun x hx=>h x (zzI _ hx)
  rcases zzN.1 hm with rfl | hm
  ·rw [hf,hg];simp;omega
  ·have h1:=ih (fun x hx=>h x (zzI _ hx)) hm
   have h2:=h a zzH
   cases hfa:f a with
   | false=>simp;omega
   | true=>rw [h2 hfa];simp;omega
theorem mark_zero {s:St} {m x:Mark} (h:decide ((s.mark m).met x=0)=true):decide (s.met x=0)=true:=by
 rw [zzg] at h ⊢
 unfold St.mark at h
 simp only [] at h
 by_cases e:x=m
 ·rw [if_pos e] at h;omega
 ·rw [if_neg e] at h;exact h
theorem unmet_mark {U:List Un} {P:Nat} {s:St} {m:Mark} (hm:m∈marks U P) (h0:s.met m=0):unmet U P (s.mark m) < unmet U P s:=by
 exact countP_less (fun x _ hx=>mark_zero hx) hm (by simp [St.mark]) (by simpa using h0)
theorem unmet_mark_le {U:List Un} {P:Nat} {s:St} {m:Mark}:unmet U P (s.mark m)≤unmet U P s:=by
 exact List.countP_mono_left fun x _ hx=>mark_zero hx
def Kt.deep:Kt→Nat
 | .top=>0
 | .row _ K=>K.deep+1
 | .grp _ K=>K.deep+1
 | .dec _ K=>K.deep+1
def Task.deep:Task→Nat
 | .beg _ _ _ _=>0
 | .dcd _ _ _ _=>0
 | .go K _ _=>K.deep+1
section
variable {t:List Int} {at_:Nat} {U:List Un}
theorem rowT_uses {l:List Un} {pl:Nat} {nt:List Int} {K:Kt} (hl:∀ s∈l,s∈U) (hp:pl≤t.length) (hK:K.uses U):(rowT l pl nt K).uses U t.length:=by
 cases l with
 | nil=>exact ⟨hK,hp⟩
 | cons s l=>exact ⟨hl s zzH,hp,(⟨fun x hx=>hl x (zzI _ hx),hK⟩:(∀ x∈l,x∈U)∧K.uses U)⟩
theorem choose_uses (hU:Closed U) {n:Un} (hn:n∈U) {pl:Nat} {nt:List Int} {again K:Kt} (hp:pl≤t.length) (h1:again.uses U) (h2:K.uses U):∀ k∈choose n pl nt again K,k.uses U t.length:=by
 unfold choose
 intro k hk
 cases hs:n.subs with
 | nil=>rw [hs] at hk;cases hk
 | cons s l =>
  rw [hs] at hk
  have hsu:s∈U:=hU n hn s (by rw [hs];exact zzH)
  simp only [] at hk
  split at hk <;> (simp only [zzN,zyA,or_false] at hk;rcases hk with rfl | rfl)
  ·exact ⟨h2,hp⟩
  ·exact ⟨hsu,hp,h1⟩
  ·exact ⟨hsu,hp,h1⟩
  ·exact ⟨h2,hp⟩
theorem first_uses (hU:Closed U) {n:Un} (hn:n∈U) {pl:Nat} {nt:List Int} {K:Kt} (hp:pl≤t.length) (hK:K.uses U):∀ k∈first t n pl nt K,k.uses U t.length:=by
 have hsub:=hU n hn
 unfold first
 intro k hk
 split at hk
 ·simp only [zzE] at hk;subst hk;exact ⟨hK,hp⟩
 split at hk
 ·split at hk
  ·rename_i h
   simp only [zzE] at hk;subst hk;exact ⟨hK,h.1⟩
  ·cases hk
 split at hk
 ·split at hk
  ·simp only [zzE] at hk;subst hk;exact ⟨hK,hp⟩
  ·cases hk
 split at hk
 ·simp only [zzE] at hk;subst hk;exact rowT_uses hsub hp hK
 split at hk
 ·obtain ⟨s,hs,rfl⟩:=zzp.1 hk
  exact ⟨hsub s hs,hp,hK⟩
 split at hk
 ·split at hk
  ·cases hk
  ·rename_i s l hs
   simp only [zzE] at hk;subst hk
   exact ⟨hsub s (by rw [hs];exact zzH),hp,hK⟩
 split at hk
 ·exact choose_uses hU hn hp hK hK k hk
 split at hk
 ·simp only [zzE] at hk;subst hk;exact ⟨hn,hp,hK⟩
 split at hk
 ·split at hk
  ·cases hk
  ·rename_i s l hs
   simp only [zzE] at hk;subst hk
   have h1:s∈U:=hsub s (by rw [hs];exact zzH)
   have h2:(Kt.dec n K).uses U:=show n∈U∧K.uses U from ⟨hn,hK⟩
   exact ⟨h1,hp,h2⟩
 ·cases hk
theorem work_uses (hU:Closed U) {s:St} {k:Task} (hk:k.uses U t.length):∀ x∈(work t at_ s k).2,x.uses U t.length:=by
 intro x hx
 cases k with
 | beg n pl nt K =>
  simp only [work] at hx
  split at hx
  ·exact first_uses hU hk.1 hk.2.1 hk.2.2 x hx
  ·cases hx
 | dcd n pl nt K =>
  simp only [work] at hx
  split at hx
  ·exact choose_uses (again:=.dec n K) hU hk.1 hk.2.1 (show n∈U∧K.uses U from ⟨hk.1,hk.2.2⟩) hk.2.2 x hx
  ·cases hx
 | go K pl nt =>
  cases K with
  | top=>simp only [work] at hx;cases hx
  | row l K=>simp only [work,zzE] at hx;subst hx;exact rowT_uses hk.1.1 hk.2 hk.1.2
  | grp i K=>simp only [work,zzE] at hx;subst hx;exact ⟨hk.1,hk.2⟩
  | dec n K=>simp only [work,zzE] at hx;subst hx;exact ⟨hk.1.1,hk.2,hk.1.2⟩
theorem rowT_deep (l:List Un) (pl:Nat) (nt:List Int) (K:Kt):(rowT l pl nt K).deep≤K.deep+1:=by
 cases l with
 | nil=>exact zzF _
 | cons s l=>exact zzZ _
theorem work_deep {s:St} {K:Kt} {pl:Nat} {nt:List Int}:unmet U t.length (work t at_ s (.go K pl nt)).1=unmet U t.length s∧∀ x∈(work t at_ s (.go K pl nt)).2,x.deep < (Task.go K pl nt).deep:=by
 cases K with
 | top =>
  refine ⟨?_,by simp [work]⟩
  simp only [work,ended]
  split <;> rfl
 | row l K=>refine ⟨rfl,fun x hx=>?_⟩;simp only [work,zzE] at hx;subst hx;have:=rowT_deep l pl nt K;show (rowT l pl nt K).deep < (K.deep+1)+1;omega
 | grp i K=>refine ⟨rfl,fun x hx=>?_⟩;simp only [work,zzE] at hx;subst hx;simp only [Task.deep,Kt.deep];omega
 | dec n K=>refine ⟨rfl,fun x hx=>?_⟩;simp only [work,zzE] at hx;subst hx;simp only [Task.deep,Kt.deep];omega
theorem one_total (hU:Closed U):∀ (n d:Nat) (s:St) (k:Task),unmet U t.length s≤n→k.deep≤d→k.uses U t.length→∃ s',One t at_ s k s'∧unmet U t.length s'≤unmet U t.length s:=by
 intro n
 induction n using Nat.strongRecOn with
 | ind n ihn =>
  intro d
  induction d with
  | zero =>
   intro s k hn hd hk
   -- a node or a decision
   have hmany:∀ (l:List Task) (u:St),unmet U t.length u < n→(∀ x∈l,x.uses U t.length)→∃ s',Many t at_ u l s'∧unmet U t.length s'≤unmet U t.length u:=by
    intro l
    induction l with
    | nil=>intro u _ _;exact ⟨u,.nil,zzF _⟩
    | cons x l ih =>
     intro u hu hl
     obtain ⟨s1,h1,h2⟩:=ihn _ hu x.deep u x (zzF _) (zzF _) (hl x zzH)
     obtain ⟨s2,h3,h4⟩:=ih s1 (by omega) fun y hy=>hl y (zzI _ hy)
     exact ⟨s2,.cons h1 h3,by omega⟩
   have hwu:=work_uses (t:=t) (at_:=at_) hU (s:=s) hk
   cases k with
   | go K pl nt=>simp [Task.deep] at hd
   | beg m pl nt K =>
    by_cases h0:s.met (m.ad,pl,false)=0
    ·have hlt:=unmet_mark (mark_mem hk.1 hk.2.1 false) h0
     obtain ⟨s',h1,h2⟩:=hmany (work t at_ s (.beg m pl nt K)).2 (work t at_ s (.beg m pl nt K)).1 (by simp only [work];omega) hwu
     exact ⟨s',.mk h1,by simp only [work] at h2;omega⟩
    ·refine ⟨_,.mk (by simp only [work,if_neg h0];exact .nil),unmet_mark_le⟩
   | dcd m pl nt K =>
    by_cases h0:s.met (m.ad,pl,true)=0
    ·have hlt:=unmet_mark (mark_mem hk.1 hk.2.1 true) h0
     obtain ⟨s',h1,h2⟩:=hmany (work t at_ s (.dcd m pl nt K)).2 (work t at_ s (.dcd m pl nt K)).1 (by simp only [work];omega) hwu
     exact ⟨s',.mk h1,by simp only [work] at h2;omega⟩
    ·refine ⟨_,.mk (by simp only [work,if_neg h0];exact .nil),unmet_mark_le⟩
  | succ d ihd =>
   intro s k hn hd hk
   by_cases hd0:k.deep≤d
   ·exact ihd s k hn hd0 hk
   cases k with
   | beg m pl nt K=>simp [Task.deep] at hd0
   | dcd m pl nt K=>simp [Task.deep] at hd0
   | go K pl nt =>
    obtain ⟨hw1,hw2⟩:=work_deep (t:=t) (at_:=at_) (U:=U) (s:=s) (K:=K) (pl:=pl) (nt:=nt)
    have hwu:=work_uses (t:=t) (at_:=at_) hU (s:=s) hk
    have hmany:∀ (l:List Task) (u:St),unmet U t.length u≤n→(∀ x∈l,x.uses U t.length)→(∀ x∈l,x.deep≤d)→∃ s',Many t at_ u l s'∧unmet U t.length s'≤unmet U t.length u:=by
     intro l
     induction l with
     | nil=>intro u _ _ _;exact ⟨u,.nil,zzF _⟩
     | cons x l ih =>
      intro u hu hl hd
      obtain ⟨s1,h1,h2⟩:=ihd u x hu (hd x zzH) (hl x zzH)
      obtain ⟨s2,h3,h4⟩:=ih s1 (by omega) (fun y hy=>hl y (zzI _ hy)) fun y hy=>hd y (zzI _ hy)
      exact ⟨s2,.cons h1 h3,by omega⟩
    obtain ⟨s',h1,h2⟩:=hmany _ (work t at_ s (.go K pl nt)).1 (by omega) hwu fun x hx=>by have:=hw2 x hx;omega
    exact ⟨s',.mk h1,by omega⟩
theorem first_len {M:Nat} (hM:2≤M) {n:Un} (hn:n.subs.length≤M) (pl:Nat) (nt:List Int) (K:Kt):(first t n pl nt K).length≤M:=by
 have hc:∀ again:Kt,(choose n pl nt again K).length≤M:=fun again=>by
  unfold choose
  split
  ·simp
  ·split <;> (simp only [zzO,List.length_nil];omega)
 unfold first
 repeat' split
 all_goals first | exact hc _ | (simp only [zzO,List.length_nil,zzP];omega)
theorem choose_len {M:Nat} (hM:2≤M) (n:Un) (pl:Nat) (nt:List Int) (again K:Kt):(choose n pl nt again K).length≤M:=by
 unfold choose
 split
 ·simp
 ·split <;> (simp only [zzO,List.length_nil];omega)
mutual
theorem one_calls (hU:Closed U) {M:Nat} (hM:2≤M) (hl:∀ n∈U,n.subs.length≤M):∀ {s s':St} {k:Task},One t at_ s k s'→k.uses U t.length→s'.calls+M*unmet U t.length s'≤s.calls+M*unmet U t.length s+1
 | s,s',k,.mk h,hk=>by
  have hm:=many_calls hU hM hl h (work_uses hU hk)
  cases k with
  | go K pl nt =>
   cases K with
   | top =>
    simp only [work,ended,List.length_nil] at hm
    split at hm <;> (simp only [unmet] at hm ⊢;omega)
   | row l K=>simp only [work,zzO,List.length_nil] at hm;omega
   | grp i K=>simp only [work,zzO,List.length_nil] at hm;omega
   | dec n K=>simp only [work,zzO,List.length_nil] at hm;omega
  | beg n pl nt K =>
   simp only [work] at hm
   by_cases h0:s.met (n.ad,pl,false)=0
   ·rw [if_pos h0] at hm
    have h1:=unmet_mark (mark_mem hk.1 hk.2.1 false) h0
    have h2:=first_len (t:=t) hM (hl n hk.1) pl nt K
    have h3:M*(unmet U t.length (s.mark (n.ad,pl,false))+1)≤M*unmet U t.length s:=Nat.mul_le_mul_left _ h1
    rw [Nat.mul_succ] at h3
    have h4:(s.mark (n.ad,pl,false)).calls=s.calls+1:=rfl
    omega
   ·rw [if_neg h0] at hm
    have h3:M*unmet U t.length (s.mark (n.ad,pl,false))≤M*unmet U t.length s:=Nat.mul_le_mul_left _ unmet_mark_le
    have h4:(s.mark (n.ad,pl,false)).calls=s.calls+1:=rfl
    simp only [List.length_nil] at hm
    omega
  | dcd n pl nt K =>
   simp only [work] at hm
   by_cases h0:s.met (n.ad,pl,true)=0
   ·rw [if_pos h0] at hm
    have h1:=unmet_mark (mark_mem hk.1 hk.2.1 true) h0
    have h2:=choose_len hM n pl nt (.dec n K) K
    have h3:M*(unmet U t.length (s.mark (n.ad,pl,true))+1)≤M*unmet U t.length s:=Nat.mul_le_mul_left _ h1
    rw [Nat.mul_succ] at h3
    have h4:(s.mark (n.ad,pl,true)).calls=s.calls+1:=rfl
    omega
   ·rw [if_neg h0] at hm
    have h3:M*unmet U t.length (s.mark (n.ad,pl,true))≤M*unmet U t.length s:=Nat.mul_le_mul_left _ unmet_mark_le
    have h4:(s.mark (n.ad,pl,true)).calls=s.calls+1:=rfl
    simp only [List.length_nil] at hm
    omega
theorem many_calls (hU:Closed U) {M:Nat} (hM:2≤M) (hl:∀ n∈U,n.subs.length≤M):∀ {s s':St} {l:List Task},Many t at_ s l s'→(∀ k∈l,k.uses U t.length)→s'.calls+M*unmet U t.length s'≤s.calls+M*unmet U t.length s+l.length
 | s,_,[],.nil,_=>zzF _
 | s,s',k :: l,.cons h1 h2,hk=>by
  have e1:=one_calls hU hM hl h1 (hk k zzH)
  have e2:=many_calls hU hM hl h2 fun x hx=>hk x (zzI _ hx)
  rw [zzO]
  omega
end
end
end Go.Proofs.YtgkclnmmjedmkaaGreat.Mean
namespace Go.Proofs.YtgkclnmmjedmkaaGreat
open Go.RowKit
theorem hasC_any (x1 x2 r:Int) (bx:Nat) (w:World) (hc:w.cell? ⟨bx,0,none⟩=some (.int .i64 r)) :
  Calls Tryz.prog 62 #[.agg #[.int .i64 x1,.int .i64 x2],.pointer (some ⟨bx,0,none⟩)] w fun e w'=>e=.returned (.bool (decide (x1≤r∧r≤x2)))∧Below w.heap.size w w':=by
 have hlt:=zze w _ hc
 have hbe:Below w.heap.size w (w.alloc (.cells #[.int .i64 x1,.int .i64 x2] 91)):=(zzb _ _).alloc (zzF _) _
 by_cases h1:x1≤r <;> by_cases h2:r≤x2
 all_goals
  go_enter Tryz.func62,Tryz.ntmps62
  go_wp2_with fail
  go_ret
  exact ⟨ret_bool (by simp [h1,h2]),hbe⟩
theorem index_any (A:Option Addr) (n c bx:Nat) (r:Int) (l:List (Int × Int)) (w:World) (hr:Reads w w.heap.size 2 A n c (flat l)) (hbx:w.cell? ⟨bx,0,none⟩=some (.int .i64 r)) :
  Calls Tryz.prog 90 #[.slice A n c,.func (.func 62) #[] #[.pointer (some ⟨bx,0,none⟩)]] w fun e w'=>(∃ k:Int,e=.returned (.int .i64 k)∧decide (0≤k)=memB l r)∧Below w.heap.size w w':=by
 obtain ⟨B,hB⟩:∃ B,B=w.heap.size:=⟨_,rfl⟩
 have hbl:=zze w _ hbx
 simp only [] at hbl
 rw [←hB] at hr hbl
 rw [←hB]
 have hBs:B≤w.heap.size:=by omega
 have hlen:l.length=n:=by have:=hr.len;rw [flat_length] at this;omega
 have HLEN:=zzA hlen
 have hnc:=hr.le
 have hcap:=hr.cap
 have HR:=zzA hr
 have HBX:=zzA hbx
 clear hB hlen hr hbx
 go_enter Tryz.func90,Tryz.ntmps90
 go_wp2_with fail
 go_loopw [8] (fun p wr=>∃ i:Nat,i≤n∧p=.int .i64 i∧(∀ x∈l.take i,decide (x.1≤r∧r≤x.2)=false)∧Below B w wr) (fun p _=>n - (intOf p).toNat)
 case atStart=>exact ⟨0,zzZ _,rfl,by simp,zzb _ _⟩
 case round =>
  obtain ⟨i,hi1,rfl,hno,hbel⟩:=hrel
  have hszr:B≤wr.heap.size:=by have:=hbel.size;omega
  have HNO:=zzA hno
  clear hno
  by_cases hlt:i < n
  ·obtain ⟨x,hx⟩:∃ x,l[i]?=some x:=⟨_,zzJ (by have:=HLEN.out;omega)⟩
   obtain ⟨b,off,rfl,hb,hcell⟩:=(HR.out.below hbel).at_ (by omega)
   have hc1:wr.cell? ⟨b,off+i*2,none⟩=some (.int .i64 x.1):=hcell _ _ (flat_get l i x hx).1
   have hc2:wr.cell? ⟨b,off+i*2+1,none⟩=some (.int .i64 x.2):=by rw [zzy];exact hcell _ _ (flat_get l i x hx).2
   have hcb:wr.cell? ⟨bx,0,none⟩=some (.int .i64 r):=(hbel.cell (p:=⟨bx,0,none⟩) hbl).trans HBX.out
   have HX:=zzA hx
   have HC:=zzA (hasC_any x.1 x.2 r bx wr hcb)
   obtain ⟨x1,x2⟩:=x
   clear hcell hx hcb
   cases hd:decide (x1≤r∧r≤x2) with
   | true =>
    have HM:=zzA (show memB l r=true from List.any_eq_true.2 ⟨(x1,x2),zzL HX.out,hd⟩)
    go_wp2_with (go_at_call 62;refine HC.out.mono ?_;rintro e w1 ⟨rfl,hb1⟩;simp only [hd])
    go_ret
    exact ⟨⟨_,rfl,by rw [HM.out];simp⟩,hbel.trans (hb1.mono hszr)⟩
   | false =>
    go_wp2_with (go_at_call 62;refine HC.out.mono ?_;rintro e w1 ⟨rfl,hb1⟩;simp only [hd])
    go_roundw
    case rel=>exact ⟨i+1,by omega,by go_num,fun y hy=>by
     rw [zyD,HX.out] at hy
     simp only [Option.toList_some,zzM,zzE] at hy
     rcases hy with hy | rfl
     ·exact HNO.out y hy
     ·exact hd,hbel.trans (hb1.mono hszr)⟩
    case measure=>simp [intOf];omega
  ·obtain rfl:i=n:=by omega
   have HM:=zzA (show memB l r=false from by
    have:=HNO.out
    rw [List.take_of_length_le (by have:=HLEN.out;omega)] at this
    unfold memB
    rw [List.any_eq_false]
    intro x hx
    rw [this x hx];simp)
   go_wp2_with fail
   go_ret
   exact ⟨⟨_,rfl,by rw [HM.out];rfl⟩,hbel⟩
theorem contains_any (A:Option Addr) (n c bx:Nat) (r:Int) (l:List (Int × Int)) (w:World) (hr:Reads w w.heap.size 2 A n c (flat l)) (hbx:w.cell? ⟨bx,0,none⟩=some (.int .i64 r)) :
  Calls Tryz.prog 61 #[.slice A n c,.func (.func 62) #[] #[.pointer (some ⟨bx,0,none⟩)]] w fun e w'=>e=.returned (.bool (memB l r))∧Below w.heap.size w w':=by
 have HI:=zzA (index_any A n c bx r l w hr hbx)
 clear hr hbx
 go_enter Tryz.func61,Tryz.ntmps61
 go_wp2_with fail
 refine HI.out.mono ?_
 rintro e w1 ⟨⟨k,rfl,hk⟩,hb⟩
 have HK:=zzA hk
 clear hk HI
 go_wp2_with fail
 go_ret
 exact ⟨ret_bool HK.out,hb⟩
theorem has_any (A:Option Addr) (n c:Nat) (r:Int) (l:List (Int × Int)) (w:World) (hr:Reads w w.heap.size 2 A n c (flat l)) :
  Calls Tryz.prog 37 #[.slice A n c,.int .i64 r] w fun e w'=>e=.returned (.bool (rightB l && memB l r))∧Below w.heap.size w w':=by
 have hb0:Below w.heap.size w (w.alloc (.cells #[.int .i64 r] 3)):=(zzb _ _).alloc (zzF _) _
 have hr1:Reads (w.alloc (.cells #[.int .i64 r] 3)) (w.alloc (.cells #[.int .i64 r] 3)).heap.size 2 A n c (flat l):=(hr.alloc (zzF _) _).more (by simp)
 have hc:(w.alloc (.cells #[.int .i64 r] 3)).cell? ⟨w.heap.size,0,none⟩=some (.int .i64 r):=(Blk.new w _ [.int .i64 r]).cell 0
 have HR:=zzA hr1
 have HC:=zzA hc
 have HRI:=zzA (right_any A n c l _ hr1)
 have hmf:∀ (fn:Fn) (first cap:Array Value) (w:World),(Instr.makeFunc fn first cap).run Tryz.prog w=.ok (.func fn first cap) w:=fun _ _ _ _=>rfl
 clear hr hr1 hc
 go_enter Tryz.func37,Tryz.ntmps37
 go_wp2_with fail
 refine HRI.out.mono ?_
 rintro e w1 ⟨rfl,hb1⟩
 have hs1:=hb1.size
 have hlt:w.heap.size < (w.alloc (.cells #[.int .i64 r] 3)).heap.size:=by simp
 have HCO:=zzA (contains_any A n c w.heap.size r l w1 ((HR.out.below hb1).more hs1) ((hb1.cell (p:=⟨w.heap.size,0,none⟩) hlt).trans HC.out))
 have hb2:Below w.heap.size w w1:=hb0.trans (hb1.mono (by simp))
 clear HRI HR HC hb1 hb0 hs1 hlt
 have hs2:=hb2.size
 cases hd:rightB l with
 | false =>
  simp only []
  go_wp2_with fail
  go_ret
  exact ⟨ret_bool (by rw [hd];rfl),hb2⟩
 | true =>
  simp only []
  go_wp2_with fail
  refine HCO.out.mono ?_
  rintro e w2 ⟨rfl,hb3⟩
  go_wp2_with fail
  go_ret
  exact ⟨ret_bool (by rw [hd];rfl),hb2.trans (hb3.mono hs2)⟩
end Go.Proofs.YtgkclnmmjedmkaaGreat
namespace Go.Proofs.YtgkclnmmjedmkaaGreat
inductive Us where
 | mk (kind:Int) (rng:List (Int × Int)) (ast ix:Int) (lz:Bool) (subs:List Us)
mutual
def shU:Mean.Un→Us
 | .mk _ k r b i z l=>.mk k r b i z (shUs l)
def shUs:List Mean.Un→List Us
 | []=>[]
 | u :: l=>shU u :: shUs l
end
theorem shUs_map:∀ l:List Mean.Un,shUs l=l.map shU
 | []=>rfl
 | u :: l=>by rw [shUs,shUs_map l];rfl
def emptyU:Us:=.mk 1 [] 0 0 false []
def loopU (k:Int) (z:Bool) (x:Us):Us:=.mk k [] 0 0 z [x]
def catU (l:List Us):Us:=.mk 4 [] 0 0 false l
def optU (z:Bool) (x:Us):Nat→Us
 | 0=>loopU (-1) z x
 | n+1=>loopU (-1) z (catU [x,optU z x n])
def repU (x:Us) (n m:Int) (z:Bool):Us :=
 if m=-1 then (if n=0 then loopU (-2) z x else catU (List.replicate (n - 1).toNat x++[loopU (-3) z x]))
 else if n.toNat=0∧¬n < m then emptyU else catU (List.replicate n.toNat x++(if n < m then [optU z x (m - n - 1).toNat] else []))
mutual
def unfS:Tr.Tr→Us
 | .mk k r a l n m z i _=>if k≠6 then .mk k r a i false (unfSs l) else repU ((unfSs l).headD emptyU) n m z
def unfSs:List Tr.Tr→List Us
 | []=>[]
 | t :: l=>unfS t :: unfSs l
end
theorem unfSs_map:∀ l:List Tr.Tr,unfSs l=l.map unfS
 | []=>rfl
 | t :: l=>by rw [unfSs,unfSs_map l];rfl
end Go.Proofs.YtgkclnmmjedmkaaGreat
namespace Go.Proofs.YtgkclnmmjedmkaaGreat.Mach
section
variable (p:Prg) (t:List Int) (at_:Nat)
def JobOk:Job→Prop
 | .pair i k=>i < p.insts.length∧at_≤k∧k≤t.length
 | .back c _=>c < p.caps.toNat
structure Ok (s:MS):Prop where
 met:s.met.length=p.insts.length*places t at_
 caps:s.caps.length=p.caps.toNat
 jobs:∀ j∈s.todo,JobOk p t at_ j
 room:3*unmet s+s.todo.length≤3*s.met.length+2
 steps:s.steps+unmet s≤s.met.length
variable {p t at_}
theorem bit_lt {i k:Nat} (h:JobOk p t at_ (.pair i k)):bitOf t at_ i k < p.insts.length*places t at_:=by
 obtain ⟨h1,h2,h3⟩:=h
 unfold bitOf places
 have:(i+1)*(t.length - at_+1)≤p.insts.length*(t.length - at_+1):=Nat.mul_le_mul_right _ h1
 rw [Nat.succ_mul] at this
 omega
theorem may_of (hc:checkB p=true) {i:Nat} {x:Ins} (hx:p.insts[i]?=some x):mayB x p.insts.length p.caps=true:=by
 unfold checkB at hc
 rw [zzc,List.all_eq_true] at hc
 exact hc.2 x (zzL hx)
theorem may_x {x:Ins} {n:Nat} {caps:Int} (h:mayB x n caps=true) (ho:x.op=1∨x.op=2∨x.op=3∨x.op=4∨x.op=7):0≤x.x∧x.x < n:=by
 unfold mayB at h
 rcases ho with e | e | e | e | e <;> simp [e] at h <;> omega
theorem may_y {x:Ins} {n:Nat} {caps:Int} (h:mayB x n caps=true) (ho:x.op=2):0≤x.y∧x.y < n:=by
 unfold mayB at h
 simp [ho] at h;omega
theorem may_arg {x:Ins} {n:Nat} {caps:Int} (h:mayB x n caps=true) (ho:x.op=3):0≤x.arg∧x.arg < caps:=by
 unfold mayB at h
 simp [ho] at h;omega
theorem may_as {x:Ins} {n:Nat} {caps:Int} (h:mayB x n caps=true) (ho:x.op=4):∃ j,j < 6∧x.arg=((2 ^ j:Nat):Int):=by
 unfold mayB at h
 simp [ho,isAs] at h
 obtain ⟨_,h⟩:=h
 rcases h with ((((h | h) | h) | h) | h) | h
 ·exact ⟨0,by omega,h⟩
 ·exact ⟨1,by omega,h⟩
 ·exact ⟨2,by omega,h⟩
 ·exact ⟨3,by omega,h⟩
 ·exact ⟨4,by omega,h⟩
 ·exact ⟨5,by omega,h⟩
theorem may_rng {x:Ins} {n:Nat} {caps:Int} (h:mayB x n caps=true) (ho:x.op=1):rightB x.rng=true:=by
 unfold mayB at h
 simp [ho] at h;exact h.2
theorem mstep_back {s:MS} {c:Nat} {old:Int} {r:List Job} (hf:s.fin=none) (ht:s.todo=.back c old :: r):mstep p t at_ s={ s with todo:=r,caps:=s.caps.set c old }:=by
 unfold mstep;rw [hf,ht]
theorem mstep_met {s:MS} {i k:Nat} {r:List Job} (hf:s.fin=none) (ht:s.todo=.pair i k :: r) (hm:s.met.getD (bitOf t at_ i k) true=true):mstep p t at_ s={ s with todo:=r }:=by
 unfold mstep;rw [hf,ht];simp only [hm,if_true]
theorem mstep_pair {s:MS} {i k:Nat} {r:List Job} {x:Ins} (hf:s.fin=none) (ht:s.todo=.pair i k :: r) (hm:s.met.getD (bitOf t at_ i k) true=false) (hx:p.insts[i]?=some x) :
  mstep p t at_ s=eff t x k { s with todo:=r,met:=s.met.set (bitOf t at_ i k) true,steps:=s.steps+1 }:=by
 unfold mstep;rw [hf,ht];simp only [hm,hx,Bool.false_eq_true,if_false]
theorem unmet_set {s:MS} {q:Nat} {r:List Job} {c:List Int} {n:Nat} {f:Option Int} (h:s.met.getD q true=false):unmet ⟨r,s.met.set q true,c,n,f⟩+1=unmet s:=count_set h
theorem Ok.eff_ {x:Ins} {k:Nat} {s:MS} (hx:mayB x p.insts.length p.caps=true) (hk:at_≤k∧k≤t.length)
  (met:s.met.length=p.insts.length*places t at_) (caps:s.caps.length=p.caps.toNat) (jobs:∀ j∈s.todo,JobOk p t at_ j)
  (room:3*unmet s+s.todo.length≤3*s.met.length) (steps:s.steps+unmet s≤s.met.length):Ok p t at_ (eff t x k s):=by
 have hp:∀ {y:Int} {m:Nat},0≤y→y < p.insts.length→at_≤m→m≤t.length→JobOk p t at_ (.pair y.toNat m):=fun a b c d=>⟨by omega,c,d⟩
 have jx:(x.op=1∨x.op=2∨x.op=3∨x.op=4∨x.op=7)→∀ m,at_≤m→m≤t.length→JobOk p t at_ (.pair x.x.toNat m):=fun ho m a b=>hp (may_x hx ho).1 (may_x hx ho).2 a b
 unfold eff
 repeat' split
 all_goals
  refine ⟨met,?_,?_,?_,steps⟩
 all_goals first
  | exact caps
  | exact jobs
  | (simp only [unmet,zzO] at *;omega)
  | (simp only [zzu];exact caps)
  | skip
 all_goals intro j hj;simp only [zzN] at hj
 ·rename_i ho hc
  rcases hj with rfl | hj
  ·exact jx (.inl ho) _ (by omega) (by omega)
  ·exact jobs j hj
 ·rename_i _ ho
  rcases hj with rfl | rfl | hj
  ·exact jx (.inr (.inl ho)) _ hk.1 hk.2
  ·exact hp (may_y hx ho).1 (may_y hx ho).2 hk.1 hk.2
  ·exact jobs j hj
 ·rename_i _ _ ho
  rcases hj with rfl | rfl | hj
  ·exact jx (.inr (.inr (.inl ho))) _ hk.1 hk.2
  ·have:=may_arg hx ho
   show x.arg.toNat < p.caps.toNat
   omega
  ·exact jobs j hj
 ·rename_i _ _ _ ho _
  rcases hj with rfl | hj
  ·exact jx (.inr (.inr (.inr (.inl ho)))) _ hk.1 hk.2
  ·exact jobs j hj
 ·rename_i _ _ _ _ _ ho
  rcases hj with rfl | hj
  ·exact jx (.inr (.inr (.inr (.inr ho)))) _ hk.1 hk.2
  ·exact jobs j hj
theorem Ok.step {s:MS} (hc:checkB p=true) (h:Ok p t at_ s):Ok p t at_ (mstep p t at_ s):=by
 obtain ⟨todo,met,caps,steps,fin⟩:=s
 obtain ⟨hm,hcp,hj,hr,hs⟩:=h
 simp only [] at hm hcp hj hr hs
 cases fin with
 | some v=>exact ⟨hm,hcp,hj,hr,hs⟩
 | none =>
  match todo with
  | []=>exact ⟨hm,hcp,hj,hr,hs⟩
  | .back c old :: r =>
   rw [mstep_back rfl rfl]
   exact ⟨hm,by simpa using hcp,fun j h=>hj j (zzI _ h),by simp only [unmet,zzO] at *;omega,hs⟩
  | .pair i k :: r =>
   have hjk:=hj _ zzH
   by_cases hq:met.getD (bitOf t at_ i k) true=true
   ·rw [mstep_met rfl rfl hq]
    exact ⟨hm,hcp,fun j h=>hj j (zzI _ h),by simp only [unmet,zzO] at *;omega,hs⟩
   ·rw [Bool.not_eq_true] at hq
    obtain ⟨x,hx⟩:∃ x,p.insts[i]?=some x:=⟨_,zzJ hjk.1⟩
    rw [mstep_pair rfl rfl hq hx]
    have hcount:=count_set hq
    refine Ok.eff_ (may_of hc hx) hjk.2 (by simpa using hm) hcp (fun j h=>hj j (zzI _ h)) ?_ ?_
    ·simp only [unmet,zzO,zzu] at *;omega
    ·simp only [unmet,zzu] at *;omega
theorem Ok.start (hc:checkB p=true) (hat:at_≤t.length) {b:Nat} (hb:at_≤b∧b≤t.length) {met:List Bool} {steps:Nat} (hm:met.length=p.insts.length*places t at_) (hs:steps+met.count false≤met.length) :
  Ok p t at_ (begin_ p b met steps):=by
 unfold checkB headB at hc
 simp only [zzc,zzg] at hc
 have:=hc.1
 have hcle:met.count false≤met.length:=List.count_le_length
 refine ⟨hm,by simp [begin_],?_,?_,hs⟩
 ·intro j hj
  simp only [begin_,zzE] at hj
  subst hj
  exact ⟨by omega,hb⟩
 ·simp only [begin_,unmet,zzO,List.length_nil];omega
end
end Go.Proofs.YtgkclnmmjedmkaaGreat.Mach
namespace Go.Proofs.YtgkclnmmjedmkaaGreat
mutual
theorem all_closed:∀ (u:Mean.Un),∀ n∈u.all,∀ s∈n.subs,s∈u.all
 | .mk ad k r a i z l=>fun n hn s hs=>by
  rw [Mean.Un.all] at hn ⊢
  rcases zzN.1 hn with rfl | hn
  ·exact zzI _ (sub_mem l s hs)
  ·exact zzI _ (alls_closed l n hn s hs)
theorem alls_closed:∀ (l:List Mean.Un),∀ n∈Mean.allU l,∀ s∈n.subs,s∈Mean.allU l
 | []=>fun n hn=>by rw [Mean.allU] at hn;cases hn
 | u :: l=>fun n hn s hs=>by
  rw [Mean.allU] at hn ⊢
  rcases zzM.1 hn with hn | hn
  ·exact zzW _ (all_closed u n hn s hs)
  ·exact zzV _ (alls_closed l n hn s hs)
theorem sub_mem:∀ (l:List Mean.Un),∀ s∈l,s∈Mean.allU l
 | []=>fun s hs=>by cases hs
 | u :: l=>fun s hs=>by
  rw [Mean.allU]
  rcases zzN.1 hs with e | hs
  ·rw [e];exact zzW _ (by rw [Mean.all_subs];exact zzH)
  ·exact zzV _ (sub_mem l s hs)
end
theorem sub_few {l:List Mean.Un}:l.length≤(Mean.allU l).length:=by
 induction l with
 | nil=>simp
 | cons u l ih=>rw [Mean.allU,zzG,zzO,Mean.all_subs,zzO];omega
theorem mem_few:∀ (u:Mean.Un),∀ n∈u.all,n.subs.length≤u.all.length:=by
 intro u n hn
 -- n's own nodes are among u's
 have h:∀ (v:Mean.Un),∀ m∈v.all,m.all.length≤v.all.length:=by
  intro v
  induction v using Mean.Un.rec (motive_2:=fun l=>∀ m∈Mean.allU l,m.all.length≤(Mean.allU l).length) with
  | mk ad k r a i z l ih =>
   intro m hm
   rw [Mean.Un.all] at hm
   rcases zzN.1 hm with rfl | hm
   ·exact zzF _
   ·have:=ih m hm
    rw [Mean.Un.all,zzO]
    omega
  | nil=>rename_i m hm;rw [Mean.allU] at hm;cases hm
  | cons t l ht hl =>
   rename_i m hm
   rw [Mean.allU] at hm ⊢
   rw [zzG]
   rcases zzM.1 hm with hm | hm
   ·have:=ht m hm;omega
   ·have:=hl m hm;omega
 have h1:=h u n hn
 rw [Mean.all_subs,zzO] at h1
 have:=sub_few (l:=n.subs)
 omega
def st0:Mean.St:=⟨fun _=>0,[],0⟩
end Go.Proofs.YtgkclnmmjedmkaaGreat
namespace Go.Proofs.YtgkclnmmjedmkaaGreat
namespace Mean
open Go.Proofs.YtgkclnmmjedmkaaGreat.Mach
section
variable (t:List Int) (at_:Nat)
def runF:Nat→St→List Task→Option St
 | 0,_,_=>none
 | _+1,s,[]=>some s
 | n+1,s,k :: l=>runF n (work t at_ s k).1 ((work t at_ s k).2++l)
end
section
variable {t:List Int} {at_:Nat}
mutual
theorem one_run:∀ {s s':St} {k:Task},One t at_ s k s'→∃ n,∀ m l,runF t at_ (n+m) s (k :: l)=runF t at_ m s' l
 | s,s',k,.mk h=>by
  obtain ⟨n,hn⟩:=many_run h
  refine ⟨n+1,fun m l=>?_⟩
  rw [show n+1+m=(n+m)+1 from by omega,runF]
  exact hn m l
theorem many_run:∀ {s s':St} {l:List Task},Many t at_ s l s'→∃ n,∀ m l',runF t at_ (n+m) s (l++l')=runF t at_ m s' l'
 | s,_,[],.nil=>⟨0,fun m l'=>by rw [zzw];rfl⟩
 | s,s',k :: l,.cons h1 h2=>by
  obtain ⟨n1,e1⟩:=one_run h1
  obtain ⟨n2,e2⟩:=many_run h2
  refine ⟨n1+n2,fun m l'=>?_⟩
  rw [zzy,zzi,e1,e2]
end
theorem run_more {s s':St}:∀ {n:Nat} {s:St} {l:List Task},runF t at_ n s l=some s'→∀ k,runF t at_ (n+k) s l=some s'
 | 0,_,_,h,_=>by cases h
 | n+1,s,[],h,k=>by rw [show n+1+k=(n+k)+1 from by omega];exact h
 | n+1,s,x :: l,h,k=>by
  rw [show n+1+k=(n+k)+1 from by omega,runF]
  rw [runF] at h
  exact run_more (s:=s) h k
end
end Mean
open Go.Proofs.YtgkclnmmjedmkaaGreat.Tr
theorem shU_mk {u:Mean.Un} {k a i:Int} {r:List (Int × Int)} {z:Bool} {l:List Us} (h:shU u=.mk k r a i z l):∃ ad us,u=.mk ad k r a i z us∧shUs us=l:=by
 cases u
 rw [shU] at h
 injection h with h1 h2 h3 h4 h5 h6
 subst h1 h2 h3 h4 h5
 exact ⟨_,_,rfl,h6⟩
theorem shUs_cons {l:List Mean.Un} {s:Us} {r:List Us} (h:shUs l=s :: r):∃ u l',l=u :: l'∧shU u=s∧shUs l'=r:=by
 cases l with
 | nil=>simp [shUs] at h
 | cons u l'=>rw [shUs] at h;injection h with h1 h2;exact ⟨u,l',rfl,h1,h2⟩
theorem shUs_nil {l:List Mean.Un} (h:shUs l=[]):l=[]:=by
 cases l with
 | nil=>rfl
 | cons u l'=>simp [shUs] at h
end Go.Proofs.YtgkclnmmjedmkaaGreat
