/- look: At, Holds. -/
import Derived.Handy
import Derived.BigQuiet
import Derived.Deep.QuietTactic
import Derived.Test.YtgkclnmmjedmkaaGreatP03
set_option maxRecDepth 100000
set_option maxHeartbeats 4000000
namespace Go.Proofs.YtgkclnmmjedmkaaGreat
open Go.RowKit Mach
theorem or_low:∀ j < 6,∀ s < 2 ^ j,bits .or .i64 ((s:Nat):Int) ((2 ^ j:Nat):Int)=((s+2 ^ j:Nat):Int):=by decide +kernel
theorem andNot_bit:∀ j < 6,∀ s < 64,(bits .andNot .i64 ((2 ^ j:Nat):Int) ((s:Nat):Int)==0)=decide (((s:Nat):Int) / ((2 ^ j:Nat):Int) % 2=1):=by decide +kernel
theorem holds_any (j s:Nat) (hj:j < 6) (hs:s < 64) (w:World) :
  Calls Tryz.prog 38 #[.int .i64 ((2 ^ j:Nat):Int),.int .i64 (s:Int)] w fun e w'=>e=.returned (.bool (decide (((s:Nat):Int) / ((2 ^ j:Nat):Int) % 2=1)))∧w=w':=by
 have H:=andNot_bit j hj s hs
 generalize ((2 ^ j:Nat):Int)=p at *
 generalize decide ((s:Int) / p % 2=1)=r at *
 obtain ⟨q,hq⟩:∃ q,bits .andNot .i64 p (s:Int)=q:=⟨_,rfl⟩
 rw [hq] at H
 go_enter Tryz.func38,Tryz.ntmps38
 go_wp2_with fail
 go_ret
 exact ⟨rfl,rfl⟩
theorem text_at {w:World} {B n c:Nat} {b off:Nat} {t:List Int} (h:Reads w B 1 (some ⟨b,off,none⟩) n c (t.map (Value.int .i64))) {k:Nat} (hk:k < n):w.cell? ⟨b,off+k,none⟩=some (.int .i64 (t.getD k 0)):=by
 have hl:t.length=n:=by have:=h.len;simpa using this
 refine h.cellAt ?_
 rw [zza,zzJ (by omega),zzf,zzJ (by omega)]
 rfl
section
variable (A:Option Addr) (n c k:Nat) (t:List Int) (w:World)
theorem first_any:Calls Tryz.prog 91 #[.agg #[.slice A n c,.int .i64 (k:Int)]] w fun e w'=>e=.returned (.bool (decide (k=0)))∧Below w.heap.size w w':=by
 by_cases h:k=0
 ·subst h
  go_enter Tryz.func91,Tryz.ntmps91
  go_wp2_with fail
  go_ret
  exact ⟨rfl,(zzb _ _).alloc (zzF _) _⟩
 ·have h1:((k:Int)==0)=false:=by rw [zzh];omega
  have hk:0 < k:=by omega
  go_enter Tryz.func91,Tryz.ntmps91
  go_wp2_with fail
  go_ret
  exact ⟨ret_bool (by simp [h]),(zzb _ _).alloc (zzF _) _⟩
theorem last_any (hn:t.length=n):Calls Tryz.prog 92 #[.agg #[.slice A n c,.int .i64 (k:Int)]] w fun e w'=>e=.returned (.bool (decide (k=t.length)))∧Below w.heap.size w w':=by
 rw [hn]
 clear hn
 by_cases h:k=n
 ·have h1:((k:Int)==(n:Int))=true:=by rw [zyE];omega
  have HH:=zzA h
  clear h
  go_enter Tryz.func92,Tryz.ntmps92
  go_wp2_with fail
  go_ret
  exact ⟨ret_bool (by simp [HH.out]),(zzb _ _).alloc (zzF _) _⟩
 ·have h1:((k:Int)==(n:Int))=false:=by rw [zzh];omega
  go_enter Tryz.func92,Tryz.ntmps92
  go_wp2_with fail
  go_ret
  exact ⟨ret_bool (by simp [h]),(zzb _ _).alloc (zzF _) _⟩
end
section
variable (A:Option Addr) (n c k:Nat) (t:List Int) (w:World)
theorem begin_any (hr:Reads w w.heap.size 1 A n c (t.map (Value.int .i64))) (hk:k≤n):Calls Tryz.prog 93 #[.agg #[.slice A n c,.int .i64 (k:Int)]] w fun e w'=>e=.returned (.bool (hb t k 2))∧Below w.heap.size w w':=by
 have hb1:Below w.heap.size w (w.alloc (.cells #[.slice A n c,.int .i64 (k:Int)] 129)):=(zzb _ _).alloc (zzF _) _
 have hnc:=hr.le
 have hcap:=hr.cap
 have HF:=zzA (first_any A n c k (w.alloc (.cells #[.slice A n c,.int .i64 (k:Int)] 129)))
 have HR:=zzA hr
 have hx0:(w.alloc (.cells #[.slice A n c,.int .i64 (k:Int)] 129)).cell? ⟨w.heap.size,0,none⟩=some (.slice A n c):=(zyI w _ [.slice A n c,.int .i64 (k:Int)]).cell 0
 have hx1:(w.alloc (.cells #[.slice A n c,.int .i64 (k:Int)] 129)).cell? ⟨w.heap.size,1,none⟩=some (.int .i64 (k:Int)):=(zyI w _ [.slice A n c,.int .i64 (k:Int)]).cell 1
 have hsz:w.heap.size < (w.alloc (.cells #[.slice A n c,.int .i64 (k:Int)] 129)).heap.size:=by simp
 have HX0:=zzA hx0
 have HX1:=zzA hx1
 have HSZ:=zzA hsz
 have HB1:=zzA hb1
 clear hr hx0 hx1 hsz hb1
 by_cases h:k=0
 ·subst h
  go_enter Tryz.func93,Tryz.ntmps93
  go_wp2_with (go_at_call 91;refine HF.out.mono ?_;rintro e w1 ⟨rfl,hb2⟩)
  go_ret
  exact ⟨ret_bool (by simp [hb]),HB1.out.trans (hb2.mono (zzo HSZ.out))⟩
 ·obtain ⟨b,off,rfl,hbl,_⟩:=HR.out.at_ (by omega)
  have hct:=text_at HR.out (k:=k - 1) (by omega)
  have h1:decide (k=0)=false:=decide_eq_false h
  have hj1:((k:Int) - 1).toNat=k - 1:=by omega
  have hj2:0≤(k:Int) - 1:=by omega
  have hj3:(k:Int) - 1 < n:=by omega
  have hgd:hb t k 2=(t.getD (k - 1) 0==10):=by simp [hb,h1]
  have HGD:=zzA hgd
  generalize t.getD (k - 1) 0=z at *
  have HCT:=zzA hct
  clear hgd hct h
  go_enter Tryz.func93,Tryz.ntmps93
  go_wp2_with (go_at_call 91;refine HF.out.mono ?_;rintro e w1 ⟨rfl,hb2⟩;rw [h1];have hy0:w1.cell? ⟨w.heap.size,0,none⟩=some (.slice (some ⟨b,off,none⟩) n c):=(hb2.cell (p:=⟨w.heap.size,0,none⟩) HSZ.out).trans HX0.out;have hy1:w1.cell? ⟨w.heap.size,1,none⟩=some (.int .i64 (k:Int)):=(hb2.cell (p:=⟨w.heap.size,1,none⟩) HSZ.out).trans HX1.out;have hy2:w1.cell? ⟨b,off+(k - 1),none⟩=some (.int .i64 z):=((HB1.out.trans (hb2.mono (zzo HSZ.out))).cell (p:=⟨b,off+(k - 1),none⟩) hbl).trans HCT.out)
  go_ret
  exact ⟨ret_bool HGD.out.symm,HB1.out.trans (hb2.mono (zzo HSZ.out))⟩
theorem end_any (hr:Reads w w.heap.size 1 A n c (t.map (Value.int .i64))) (hk:k≤n):Calls Tryz.prog 94 #[.agg #[.slice A n c,.int .i64 (k:Int)]] w fun e w'=>e=.returned (.bool (hb t k 3))∧Below w.heap.size w w':=by
 have hb1:Below w.heap.size w (w.alloc (.cells #[.slice A n c,.int .i64 (k:Int)] 129)):=(zzb _ _).alloc (zzF _) _
 have hnc:=hr.le
 have hcap:=hr.cap
 have hl:t.length=n:=by have:=hr.len;simpa using this
 have HF:=zzA (last_any A n c k t (w.alloc (.cells #[.slice A n c,.int .i64 (k:Int)] 129)) hl)
 have HR:=zzA hr
 have hx0:(w.alloc (.cells #[.slice A n c,.int .i64 (k:Int)] 129)).cell? ⟨w.heap.size,0,none⟩=some (.slice A n c):=(zyI w _ [.slice A n c,.int .i64 (k:Int)]).cell 0
 have hx1:(w.alloc (.cells #[.slice A n c,.int .i64 (k:Int)] 129)).cell? ⟨w.heap.size,1,none⟩=some (.int .i64 (k:Int)):=(zyI w _ [.slice A n c,.int .i64 (k:Int)]).cell 1
 have hsz:w.heap.size < (w.alloc (.cells #[.slice A n c,.int .i64 (k:Int)] 129)).heap.size:=by simp
 have HX0:=zzA hx0
 have HX1:=zzA hx1
 have HSZ:=zzA hsz
 have HB1:=zzA hb1
 have HL:=zzA hl
 clear hr hx0 hx1 hsz hb1 hl
 by_cases h:k=n
 ·have h1:decide (k=t.length)=true:=decide_eq_true (by rw [HL.out];exact h)
  have HH:=zzA (show hb t k 3=true from by simp only [hb,h1,Bool.true_or])
  clear h
  go_enter Tryz.func94,Tryz.ntmps94
  go_wp2_with (go_at_call 92;refine HF.out.mono ?_;rintro e w1 ⟨rfl,hb2⟩;rw [h1])
  go_ret
  exact ⟨ret_bool HH.out.symm,HB1.out.trans (hb2.mono (zzo HSZ.out))⟩
 ·obtain ⟨b,off,rfl,hbl,_⟩:=HR.out.at_ (by omega)
  have hlt:k < n:=by omega
  have hct:=text_at HR.out hlt
  have h1:decide (k=t.length)=false:=decide_eq_false (by rw [HL.out];exact h)
  have hgd:hb t k 3=(t.getD k 0==10):=by simp [hb,h1]
  have HGD:=zzA hgd
  generalize t.getD k 0=z at *
  have HCT:=zzA hct
  clear hgd hct h
  go_enter Tryz.func94,Tryz.ntmps94
  go_wp2_with (go_at_call 92;refine HF.out.mono ?_;rintro e w1 ⟨rfl,hb2⟩;rw [h1];have hy0:w1.cell? ⟨w.heap.size,0,none⟩=some (.slice (some ⟨b,off,none⟩) n c):=(hb2.cell (p:=⟨w.heap.size,0,none⟩) HSZ.out).trans HX0.out;have hy1:w1.cell? ⟨w.heap.size,1,none⟩=some (.int .i64 (k:Int)):=(hb2.cell (p:=⟨w.heap.size,1,none⟩) HSZ.out).trans HX1.out;have hy2:w1.cell? ⟨b,off+k,none⟩=some (.int .i64 z):=((HB1.out.trans (hb2.mono (zzo HSZ.out))).cell (p:=⟨b,off+k,none⟩) hbl).trans HCT.out)
  go_ret
  exact ⟨ret_bool HGD.out.symm,HB1.out.trans (hb2.mono (zzo HSZ.out))⟩
end
theorem cells_twoF (w:World) (t:TypeId) (cs ds:List Value):Blk ((w.alloc (.cells cs.toArray t)).alloc (.cells ds.toArray t)) w.heap.size t cs∧Blk ((w.alloc (.cells cs.toArray t)).alloc (.cells ds.toArray t)) (w.heap.size+1) t ds:=by
 refine ⟨(zyI w t cs).alloc _,?_⟩
 have:=zyI (w.alloc (.cells cs.toArray t)) t ds
 rw [show (w.alloc (.cells cs.toArray t)).heap.size=w.heap.size+1 from by simp] at this
 exact this
theorem sameF_any (b:Bool) (wh st:Int) (l:List Int) (A1 A2:Option Addr) (n c1 c2:Nat) (w:World) (h1:Reads w w.heap.size 1 A1 n c1 (l.map (Value.int .i64))) (h2:Reads w w.heap.size 1 A2 n c2 (l.map (Value.int .i64)))
  : Calls Tryz.prog 40 #[.agg #[.bool b,.slice A1 n c1,.int .i64 wh,.int .i64 st],.agg #[.bool b,.slice A2 n c2,.int .i64 wh,.int .i64 st]] w fun e w'=>e=.returned (.bool true)∧Below w.heap.size w w':=by
 have hl:l.length=n:=by have:=h1.len;simpa using this
 have hnc1:=h1.le
 have hnc2:=h2.le
 have hcp1:=h1.cap
 have hcp2:=h2.cap
 obtain ⟨hB1,hB2⟩:=cells_twoF w 40 [.bool b,.slice A1 n c1,.int .i64 wh,.int .i64 st] [.bool b,.slice A2 n c2,.int .i64 wh,.int .i64 st]
 have hb0:Below w.heap.size w ((w.alloc (.cells #[.bool b,.slice A1 n c1,.int .i64 wh,.int .i64 st] 40)).alloc (.cells #[.bool b,.slice A2 n c2,.int .i64 wh,.int .i64 st] 40)):=((zzb _ _).alloc (zzF _) _).alloc (by simp) _
 have HB1:=zzA hB1
 have HB2:=zzA hB2
 have HB0:=zzA hb0
 have H1:=zzA (h1.below hb0)
 have H2:=zzA (h2.below hb0)
 clear hB1 hB2 hb0 h1 h2
 have hbb:(b != b)=false:=by cases b <;> rfl
 go_enter Tryz.func40,Tryz.ntmps40
 go_wp2_with fail
 generalize (w.alloc (.cells #[.bool b,.slice A1 n c1,.int .i64 wh,.int .i64 st] 40)).alloc (.cells #[.bool b,.slice A2 n c2,.int .i64 wh,.int .i64 st] 40)=w1 at *
 go_loopw [5] (fun q wr=>∃ i:Nat,i≤n∧q=.int .i64 i∧Below w1.heap.size w1 wr) (fun q _=>n - (intOf q).toNat)
 case atStart=>exact ⟨0,zzZ _,rfl,zzb _ _⟩
 case round =>
  obtain ⟨i,hi,rfl,hb⟩:=hrel
  have r1:wr.cell? ⟨w.heap.size,1,none⟩=some (.slice A1 n c1):=(HB1.out.below hb HB1.out.lt).cell 1
  have r2:wr.cell? ⟨w.heap.size+1,1,none⟩=some (.slice A2 n c2):=(HB2.out.below hb HB2.out.lt).cell 1
  have HB:=zzA hb
  clear hb
  by_cases hlt:i < n
  ·have hlt2:(i:Int) < (n:Int):=by omega
   obtain ⟨a1,o1,hA1,hl1,hc1⟩:=H1.out.at_ (by omega)
   obtain ⟨a2,o2,hA2,hl2,hc2⟩:=H2.out.at_ (by omega)
   subst hA1 hA2
   have HSZ:=HB0.out.size
   obtain ⟨z,hz⟩:∃ z,l[i]?=some z:=⟨_,zzJ (by omega)⟩
   have e1:wr.cell? ⟨a1,o1+i,none⟩=some (.int .i64 z):=(HB.out.cell (p:=⟨a1,o1+i,none⟩) (by simp only [];omega)).trans (hc1 i _ (by rw [zza,hz];rfl))
   have e2:wr.cell? ⟨a2,o2+i,none⟩=some (.int .i64 z):=(HB.out.cell (p:=⟨a2,o2+i,none⟩) (by simp only [];omega)).trans (hc2 i _ (by rw [zza,hz];rfl))
   have hzz:((z:Int) != z)=false:=by simp
   clear hc1 hc2 hz
   go_wp2_with fail
   go_quiet (fail)
   go_wp2_with fail
   go_roundw
   case rel=>exact ⟨i+1,by omega,by go_num,bdrewN HB.out nq⟩
   case measure=>simp [intOf];omega
  ·obtain rfl:i=n:=by omega
   go_wp2_with fail
   go_ret
   exact ⟨rfl,HB0.out.trans (HB.out.mono HB0.out.size)⟩
theorem sameFind_any (b:Bool) (wh st st2:Int) (l:List Int) (A1 A2:Option Addr) (n c1 c2:Nat) (w:World) (h1:Reads w w.heap.size 1 A1 n c1 (l.map (Value.int .i64))) (h2:Reads w w.heap.size 1 A2 n c2 (l.map (Value.int .i64)))
  : Calls Tryz.prog 11 #[.agg #[.bool b,.slice A1 n c1,.int .i64 wh,.int .i64 st],.agg #[.bool b,.slice A2 n c2,.int .i64 wh,.int .i64 st2]] w fun e w'=>e=.returned (.bool true)∧Below w.heap.size w w':=by
 have hb0:Below w.heap.size w ((w.alloc (.cells #[.bool b,.slice A1 n c1,.int .i64 wh,.int .i64 st2] 40)).alloc (.cells #[.bool b,.slice A2 n c2,.int .i64 wh,.int .i64 st2] 40)):=((zzb _ _).alloc (zzF _) _).alloc (by simp) _
 have HB0:=zzA hb0
 have HS:=zzA (sameF_any b wh st2 l A1 A2 n c1 c2 _ ((h1.below hb0).more hb0.size) ((h2.below hb0).more hb0.size))
 clear hb0 h1 h2
 go_enter Tryz.func11,Tryz.ntmps11
 go_wp2_with (go_at_call 40;refine HS.out.mono ?_;rintro e w2 ⟨rfl,hb2⟩;have HB2:=zzA hb2;clear hb2;simp only [])
 go_ret
 exact ⟨rfl,HB0.out.trans (HB2.out.mono HB0.out.size)⟩
end Go.Proofs.YtgkclnmmjedmkaaGreat
namespace Go.Proofs.YtgkclnmmjedmkaaGreat.Tr
def emptyT:Tr:=.mk 1 [] 0 [] 0 0 false 0 .empty
def catT (l:List Tr):Tr:=.mk 4 [] 0 l 0 0 false 0 .empty
def altT (l:List Tr):Tr:=.mk 5 [] 0 l 0 0 false 0 .empty
def repT (s:Tr) (mn mx:Int) (lz:Bool):Tr:=.mk 6 [] 0 [s] mn mx lz 0 .empty
def groupT (s:Tr) (ix:Int) (nm:ByteArray):Tr:=.mk 7 [] 0 [s] 0 0 false ix nm
def row:List Tr→Tr
 | []=>emptyT
 | [x]=>x
 | l=>catT l
def putT (t:Tr):List Tr:=if t.kind=1 then [] else if t.kind=4 then t.subs else [t]
def altPut (t:Tr):List Tr:=if t.kind=5 then t.subs else [t]
def optS (y:Tr) (lz:Bool):Nat→Tr
 | 0=>emptyT
 | n+1=>repT (row (putT y++putT (optS y lz n))) 0 1 lz
def unfoldS (y:Tr) (mn mx:Int) (lz:Bool):Tr :=
 if mx < 0∧mn=0 then repT y 0 (-1) lz
 else if mx < 0 then row ((List.replicate (mn - 1).toNat (putT y)).flatten++putT (repT y 1 (-1) lz))
 else row ((List.replicate mn.toNat (putT y)).flatten++putT (optS y lz (mx - mn).toNat))
mutual
def simpleS:Tr→Tr
 | .mk k r a l n m z i s =>
  if k=7 then groupT ((simplesS l).headD emptyT) i s
  else if k=4 then row ((simplesS l).flatMap putT)
  else if k=5 then altT ((simplesS l).flatMap altPut)
  else if k=6 then (if m=0 then emptyT else unfoldS ((simplesS l).headD emptyT) n m z)
  else .mk k r a l n m z i s
def simplesS:List Tr→List Tr
 | []=>[]
 | t :: l=>simpleS t :: simplesS l
end
theorem simplesS_map:∀ l,simplesS l=l.map simpleS
 | []=>rfl
 | t :: l=>by rw [simplesS,simplesS_map l];rfl
def cN:Int:=200001
def cD:Int:=10001
theorem cN_ge:1000≤cN:=by decide
theorem cD_ge:1000≤cD:=by decide
structure Form where
 kind:Int
 size:Int
 deep:Int
 subs:Int
deriving DecidableEq
def boundF (f:Form):Form:=⟨f.kind,min f.size cN,min f.deep cD,f.subs⟩
def aboveF (k:Int) (f:Form):Form:=boundF ⟨k,f.size+1,f.deep+1,0⟩
structure Jn where
 size:Int
 deep:Int
 subs:Int
 only:Form
deriving DecidableEq
def j0:Jn:=⟨0,0,0,⟨0,0,0,0⟩⟩
def jput1 (j:Jn) (f:Form) (n:Int):Jn :=
 if n=0∨f.kind=1 then j
 else if f.kind=4 then ⟨j.size+n*(f.size - 1),max j.deep (f.deep - 1),j.subs+n*f.subs,j.only⟩
 else ⟨j.size+n*f.size,max j.deep f.deep,j.subs+n,f⟩
def jput (j:Jn) (f:Form) (n:Int):Jn:=⟨min (jput1 j f n).size cN,(jput1 j f n).deep,min (jput1 j f n).subs cN,(jput1 j f n).only⟩
def jform (j:Jn):Form:=if j.subs=0 then ⟨1,1,1,0⟩ else if j.subs=1 then j.only else boundF ⟨4,j.size+1,j.deep+1,j.subs⟩
def optF (y:Form):Nat→Form
 | 0=>⟨1,1,1,0⟩
 | n+1=>aboveF 6 (jform (jput (jput j0 y 1) (optF y n) 1))
def timesF (y:Form) (mn mx:Int):Form :=
 if mx < 0∧mn=0 then aboveF 6 y
 else if mx < 0 then jform (jput (jput j0 y (mn - 1)) (aboveF 6 y) 1)
 else jform (jput (jput j0 y mn) (optF y (mx - mn).toNat) 1)
def altPutF (p:Int × Int) (f:Form):Int × Int:=if f.kind=5 then (min (p.1+(f.size - 1)) cN,max p.2 (f.deep - 1)) else (min (p.1+f.size) cN,max p.2 f.deep)
mutual
def reckonS:Tr→Form
 | .mk k _ _ l n m _ _ _ =>
  if k=7 then aboveF 7 ((reckonsS l).headD ⟨1,1,1,0⟩)
  else if k=4 then jform ((reckonsS l).foldl (fun j f=>jput j f 1) j0)
  else if k=5 then (let p:=(reckonsS l).foldl altPutF (1,0);boundF ⟨5,p.1,p.2+1,0⟩)
  else if k=6 then timesF ((reckonsS l).headD ⟨1,1,1,0⟩) n m
  else ⟨k,1,1,0⟩
def reckonsS:List Tr→List Form
 | []=>[]
 | t :: l=>reckonS t :: reckonsS l
end
theorem reckonsS_map:∀ l,reckonsS l=l.map reckonS
 | []=>rfl
 | t :: l=>by rw [reckonsS,reckonsS_map l];rfl
def badRep:Tr→Bool
 | .mk k _ _ _ n m _ _ _=>decide (k=6∧(1 < n∨1 < m∨m=0∨(n=1∧m=1)))
def badK (k above:Int):Bool:=decide ((k=4∧above=4)∨(k=5∧above=5)∨(k=1∧above=4))
def badIn (t:Tr) (above:Int):Bool:=badK t.kind above
mutual
def simpB:Tr→Int→Bool
 | .mk k r a l n m z i s,above=>!badRep (.mk k r a l n m z i s) && !badIn (.mk k r a l n m z i s) above && simpsB l k
def simpsB:List Tr→Int→Bool
 | [],_=>true
 | t :: l,k=>simpB t k && simpsB l k
end
theorem simpsB_iff:∀ (l:List Tr) (k:Int),simpsB l k=true ↔ ∀ t∈l,simpB t k=true
 | [],k=>by simp [simpsB]
 | t :: l,k=>by rw [simpsB,zzc,simpsB_iff l];simp
theorem simpB_iff (t:Tr) (k:Int):simpB t k=true ↔ badRep t=false∧badIn t k=false∧∀ s∈t.subs,simpB s t.kind=true:=by
 cases t with
 | mk kk r a l n m z i s=>rw [simpB,zzc,zzc,simpsB_iff,Bool.not_eq_true',Bool.not_eq_true',and_assoc];rfl
theorem simpB_above {t:Tr} {k k2:Int} (h:simpB t k=true) (hb:badIn t k2=false):simpB t k2=true:=by
 rw [simpB_iff] at h ⊢
 exact ⟨h.1,hb,h.2.2⟩
theorem badIn_false {t:Tr} {k:Int} (h4:¬(t.kind=4∧k=4)) (h5:¬(t.kind=5∧k=5)) (h1:¬(t.kind=1∧k=4)):badIn t k=false:=by
 unfold badIn badK
 rw [decide_eq_false_iff_not]
 rintro (h | h | h)
 ·exact h4 h
 ·exact h5 h
 ·exact h1 h
theorem badIn_far {t:Tr} {k:Int} (h4:k≠4) (h5:k≠5):badIn t k=false:=badIn_false (fun h=>h4 h.2) (fun h=>h5 h.2) (fun h=>h4 h.2)
def Good (t:Tr):Prop:=allB t=true∧simpB t 0=true
theorem noName_eq {s:ByteArray} (h:noName s=true):s=.empty:=by
 unfold noName at h
 rw [zzg] at h
 exact ByteArray.size_eq_zero_iff.1 h
theorem zeroB_eq {r:List (Int × Int)} {a n m:Int} {z:Bool} {i:Int} {s:ByteArray} (h:zeroB r a n m z i s=true):r=[]∧a=0∧n=0∧m=0∧z=false∧i=0∧s=.empty:=by
 unfold zeroB at h
 simp only [zzc,List.isEmpty_iff,zyE,Bool.not_eq_true'] at h
 obtain ⟨h1,h2,h3,h4,h5,h6,h7⟩:=h
 exact ⟨h1,h2,h3,h4,h5,h6,noName_eq h7⟩
inductive Kinds:Tr→Prop
 | empty:Kinds emptyT
 | cls (r:List (Int × Int)):rightB r=true→Kinds (.mk 2 r 0 [] 0 0 false 0 .empty)
 | ass (a:Int):assertB a=true→Kinds (.mk 3 [] a [] 0 0 false 0 .empty)
 | cat (l:List Tr):2≤l.length→(∀ s∈l,allB s=true)→Kinds (catT l)
 | alt (l:List Tr):2≤l.length→(∀ s∈l,allB s=true)→Kinds (altT l)
 | rep (x:Tr) (n m:Int) (z:Bool):allB x=true→0≤n→n≤1000→(m=-1∨(n≤m∧m≤1000))→Kinds (repT x n m z)
 | group (x:Tr) (i:Int) (s:ByteArray):allB x=true→1≤i→i≤500→(noName s || nameB s)=true→Kinds (groupT x i s)
theorem kinds {t:Tr} (h:allB t=true):Kinds t:=by
 obtain ⟨hn,hs⟩:=(allB_iff t).1 h
 cases t with
 | mk k r a l n m z i s =>
  simp only [Tr.subs] at hs
  rw [nodeB,nodeF] at hn
  by_cases h1:k=1
  ·rw [if_pos h1,zzc] at hn
   obtain ⟨rfl,rfl,rfl,rfl,rfl,rfl,rfl⟩:=zeroB_eq hn.1
   obtain rfl:l=[]:=by simpa using hn.2
   subst h1
   exact .empty
  rw [if_neg h1] at hn
  by_cases h2:k=2
  ·rw [if_pos h2,zzc,zzc] at hn
   obtain ⟨_,rfl,rfl,rfl,rfl,rfl,rfl⟩:=zeroB_eq hn.1
   obtain rfl:l=[]:=by simpa using hn.2.1
   subst h2
   exact .cls r hn.2.2
  rw [if_neg h2] at hn
  by_cases h3:k=3
  ·rw [if_pos h3,zzc,zzc] at hn
   obtain ⟨rfl,_,rfl,rfl,rfl,rfl,rfl⟩:=zeroB_eq hn.1
   obtain rfl:l=[]:=by simpa using hn.2.1
   subst h3
   exact .ass a hn.2.2
  rw [if_neg h3] at hn
  by_cases h4:k=4
  ·rw [if_pos h4,zzc] at hn
   obtain ⟨rfl,rfl,rfl,rfl,rfl,rfl,rfl⟩:=zeroB_eq hn.1
   subst h4
   exact .cat l (of_decide_eq_true hn.2) hs
  rw [if_neg h4] at hn
  by_cases h5:k=5
  ·rw [if_pos h5,zzc] at hn
   obtain ⟨rfl,rfl,rfl,rfl,rfl,rfl,rfl⟩:=zeroB_eq hn.1
   subst h5
   exact .alt l (of_decide_eq_true hn.2) hs
  rw [if_neg h5] at hn
  by_cases h6:k=6
  ·rw [if_pos h6] at hn
   simp only [zzc,Bool.or_eq_true,zzg,zyE] at hn
   obtain ⟨hz,hq,hn0,hn1,hm⟩:=hn
   obtain ⟨rfl,rfl,_,_,_,rfl,rfl⟩:=zeroB_eq hz
   obtain ⟨x,rfl⟩:=List.length_eq_one_iff.1 hq
   subst h6
   exact .rep x n m z (hs x zzH) hn0 hn1 hm
  rw [if_neg h6] at hn
  by_cases h7:k=7
  ·rw [if_pos h7] at hn
   simp only [zzc,zzg,zyE] at hn
   obtain ⟨hz,hq,hi0,hi1,hm⟩:=hn
   obtain ⟨rfl,rfl,rfl,rfl,rfl,_,_⟩:=zeroB_eq hz
   obtain ⟨x,rfl⟩:=List.length_eq_one_iff.1 hq
   subst h7
   exact .group x i s (hs x zzH) hi0 hi1 hm
  rw [if_neg h7] at hn
  cases hn
theorem all_cat {l:List Tr} (h2:2≤l.length) (h:∀ s∈l,allB s=true):allB (catT l)=true:=(allB_iff _).2 ⟨by rw [catT,nodeB,nodeF];simpa [zeroB,noName] using h2,h⟩
theorem all_alt {l:List Tr} (h2:2≤l.length) (h:∀ s∈l,allB s=true):allB (altT l)=true:=(allB_iff _).2 ⟨by rw [altT,nodeB,nodeF];simpa [zeroB,noName] using h2,h⟩
theorem all_rep {x:Tr} {n m:Int} {z:Bool} (h:allB x=true) (h0:0≤n) (h1:n≤1000) (hm:m=-1∨(n≤m∧m≤1000)):allB (repT x n m z)=true :=
 (allB_iff _).2 ⟨by rw [repT,nodeB,nodeF];simpa [zeroB,noName] using ⟨h0,h1,hm⟩,by intro s hs;simp only [repT,Tr.subs,zzE] at hs;rw [hs];exact h⟩
theorem all_group {x:Tr} {i:Int} {s:ByteArray} (h:allB x=true) (h0:1≤i) (h1:i≤500) (hm:(noName s || nameB s)=true):allB (groupT x i s)=true :=
 (allB_iff _).2 ⟨by rw [groupT,nodeB,nodeF];simpa [zeroB,noName] using ⟨h0,h1,by simpa [noName] using hm⟩,by intro y hs;simp only [groupT,Tr.subs,zzE] at hs;rw [hs];exact h⟩
def InRow (t:Tr):Prop:=allB t=true∧simpB t 4=true
theorem InRow.good {t:Tr} (h:InRow t):Good t:=⟨h.1,simpB_above h.2 (badIn_far (by decide) (by decide))⟩
theorem put_in {t:Tr} (h:Good t):∀ s∈putT t,InRow s:=by
 intro s hs
 unfold putT at hs
 by_cases h1:t.kind=1
 ·rw [if_pos h1] at hs;cases hs
 rw [if_neg h1] at hs
 by_cases h4:t.kind=4
 ·rw [if_pos h4] at hs
  have h2:=((simpB_iff t 0).1 h.2).2.2 s hs
  rw [h4] at h2
  exact ⟨((allB_iff t).1 h.1).2 s hs,h2⟩
 ·rw [if_neg h4,zzE] at hs
  subst hs
  exact ⟨h.1,simpB_above h.2 (badIn_false (fun e=>h4 e.1) (fun e=>by cases e.2) (fun e=>h1 e.1))⟩
theorem good_empty:Good emptyT:=by unfold Good;decide
theorem row_good {l:List Tr} (h:∀ s∈l,InRow s):Good (row l):=by
 match l,h with
 | [],_=>exact good_empty
 | [x],h=>exact (h x zzH).good
 | a :: b :: l,h =>
  change Good (catT (a :: b :: l))
  exact ⟨all_cat (by simp) fun s hs=>(h s hs).1,(simpB_iff _ _).2 ⟨rfl,rfl,fun s hs=>(h s hs).2⟩⟩
theorem rep_good {y:Tr} (h:Good y) {mn mx:Int} (lz:Bool) (hm:(mn=0∧mx=-1)∨(mn=1∧mx=-1)∨(mn=0∧mx=1)):Good (repT y mn mx lz):=by
 refine ⟨all_rep h.1 (by omega) (by omega) (by omega),(simpB_iff _ _).2 ⟨?_,rfl,fun s hs=>?_⟩⟩
 ·rw [repT,badRep,decide_eq_false_iff_not];omega
 ·simp only [repT,Tr.subs,zzE] at hs
  rw [hs]
  exact simpB_above h.2 (badIn_far (show (6:Int)≠4 by decide) (show (6:Int)≠5 by decide))
theorem opt_good {y:Tr} (h:Good y) (lz:Bool):∀ n,Good (optS y lz n)
 | 0=>good_empty
 | n+1=>rep_good (row_good fun s hs=>by
   rcases zzM.1 hs with hs | hs
   ·exact put_in h s hs
   ·exact put_in (opt_good h lz n) s hs) lz (.inr (.inr ⟨rfl,rfl⟩))
theorem many_in {y:Tr} (h:Good y) (n:Nat):∀ s∈(List.replicate n (putT y)).flatten,InRow s:=by
 intro s hs
 obtain ⟨l,hl,hs⟩:=List.mem_flatten.1 hs
 rw [(List.mem_replicate.1 hl).2] at hs
 exact put_in h s hs
theorem unfold_good {y:Tr} (h:Good y) (mn mx:Int) (lz:Bool):Good (unfoldS y mn mx lz):=by
 unfold unfoldS
 split
 ·exact rep_good h lz (.inl ⟨rfl,rfl⟩)
 ·split
  ·refine row_good fun s hs=>?_
   rcases zzM.1 hs with hs | hs
   ·exact many_in h _ s hs
   ·exact put_in (rep_good h lz (.inr (.inl ⟨rfl,rfl⟩))) s hs
  ·refine row_good fun s hs=>?_
   rcases zzM.1 hs with hs | hs
   ·exact many_in h _ s hs
   ·exact put_in (opt_good h lz _) s hs
theorem alt_good {l:List Tr} (h:∀ s∈l,Good s) (h2:2≤l.length):Good (altT (l.flatMap altPut)):=by
 have hin:∀ s∈l.flatMap altPut,allB s=true∧simpB s 5=true:=by
  intro s hs
  obtain ⟨t,ht,hs⟩:=zzs.1 hs
  have hg:=h t ht
  unfold altPut at hs
  by_cases h5:t.kind=5
  ·rw [if_pos h5] at hs
   have h2:=((simpB_iff t 0).1 hg.2).2.2 s hs
   rw [h5] at h2
   exact ⟨((allB_iff t).1 hg.1).2 s hs,h2⟩
  ·rw [if_neg h5,zzE] at hs
   subst hs
   exact ⟨hg.1,simpB_above hg.2 (badIn_false (fun e=>by cases e.2) (fun e=>h5 e.1) (fun e=>by cases e.2))⟩
 have hlen:∀ l:List Tr,(∀ s∈l,Good s)→l.length≤(l.flatMap altPut).length:=by
  intro l
  induction l with
  | nil=>intro _;simp
  | cons t l ih =>
   intro h
   have h1:=ih fun s hs=>h s (zzI _ hs)
   rw [zzl,zzG,zzO]
   have:1≤(altPut t).length:=by
    unfold altPut
    by_cases h5:t.kind=5
    ·rw [if_pos h5]
     have hk:=kinds (h t zzH).1
     cases hk with
     | alt l h2 _=>exact zzU (by decide) h2
     | _=>cases h5
    ·rw [if_neg h5];simp
   omega
 exact ⟨all_alt (zzU h2 (hlen l h)) fun s hs=>(hin s hs).1,(simpB_iff _ _).2 ⟨rfl,rfl,fun s hs=>(hin s hs).2⟩⟩
theorem simple_good:∀ t:Tr,allB t=true→Good (simpleS t):=by
 intro t
 induction t using Tr.ind with
 | h t ih =>
  intro h
  cases kinds h with
  | empty=>exact good_empty
  | cls r hr=>exact ⟨h,(simpB_iff _ _).2 ⟨rfl,rfl,fun s hs=>absurd hs (zyA (a:=s))⟩⟩
  | ass a ha=>exact ⟨h,(simpB_iff _ _).2 ⟨rfl,rfl,fun s hs=>absurd hs (zyA (a:=s))⟩⟩
  | cat l h2 hs =>
   rw [catT,simpleS,simplesS_map,if_neg (by decide),if_pos rfl]
   refine row_good fun x hx=>?_
   obtain ⟨y,hy,hx⟩:=zzs.1 hx
   obtain ⟨u,hu,rfl⟩:=zzp.1 hy
   exact put_in (ih u hu (hs u hu)) x hx
  | alt l h2 hs =>
   rw [altT,simpleS,simplesS_map,if_neg (by decide),if_neg (by decide),if_pos rfl]
   refine alt_good (fun x hx=>?_) (by rw [zzP];exact h2)
   obtain ⟨u,hu,rfl⟩:=zzp.1 hx
   exact ih u hu (hs u hu)
  | rep x n m z hx h0 h1 hm =>
   rw [repT,simpleS,simplesS_map,if_neg (by decide),if_neg (by decide),if_neg (by decide),if_pos rfl]
   split
   ·exact good_empty
   ·exact unfold_good (ih x zzH hx) _ _ _
  | group x i s hx h0 h1 hm =>
   rw [groupT,simpleS,simplesS_map,if_pos rfl]
   have hg:=ih x zzH hx
   refine ⟨all_group hg.1 h0 h1 hm,(simpB_iff _ _).2 ⟨rfl,rfl,fun y hy=>?_⟩⟩
   simp only [groupT,Tr.subs,zzS,List.headD_cons,zzE] at hy
   rw [hy]
   exact simpB_above hg.2 (badIn_far (show (7:Int)≠4 by decide) (show (7:Int)≠5 by decide))
def capF (t:Tr):Form:=⟨t.kind,min ((size t:Nat):Int) cN,min ((deep t:Nat):Int) cD,if t.kind=4 then min ((t.subs.length:Nat):Int) cN else 0⟩
theorem capF_kind (t:Tr):(capF t).kind=t.kind:=by rw [capF]
theorem capF_size (t:Tr):(capF t).size=min ((size t:Nat):Int) cN:=by rw [capF]
theorem capF_deep (t:Tr):(capF t).deep=min ((deep t:Nat):Int) cD:=by rw [capF]
theorem capF_subs {t:Tr} (h:t.kind=4):(capF t).subs=min ((t.subs.length:Nat):Int) cN:=by rw [capF];simp only [];rw [if_pos h]
theorem capF_mk {t:Tr} {k a b c:Int} (h1:t.kind=k) (h2:min ((size t:Nat):Int) cN=a) (h3:min ((deep t:Nat):Int) cD=b) (h4:(if t.kind=4 then min ((t.subs.length:Nat):Int) cN else 0)=c):capF t=⟨k,a,b,c⟩:=by rw [capF,h1.symm,h2,h3,h4]
theorem sizes_append:∀ a b:List Tr,sizes (a++b)=sizes a+sizes b
 | [],b=>by simp [sizes]
 | t :: a,b=>by rw [zzi,sizes,sizes,sizes_append a b];omega
theorem deeps_append:∀ a b:List Tr,deeps (a++b)=max (deeps a) (deeps b)
 | [],b=>by simp [deeps]
 | t :: a,b=>by rw [zzi,deeps,deeps,deeps_append a b];omega
theorem size_subs (t:Tr):size t=sizes t.subs+1:=by cases t;rw [size];rfl
theorem deep_subs (t:Tr):deep t=deeps t.subs+1:=by cases t;rw [deep];rfl
structure JR (j:Jn) (l:List Tr):Prop where
 sz:min j.size (cN - 1)=min (sizes l:Int) (cN - 1)
 sz0:0≤j.size∧j.size≤cN
 dp:min j.deep (cD - 1)=min (deeps l:Int) (cD - 1)
 dp0:0≤j.deep∧j.deep≤cD
 sb:j.subs=min (l.length:Int) cN
 only:∀ x,l=[x]→j.only=capF x
theorem JR.nil:JR j0 []:=⟨rfl,by decide,rfl,by decide,by decide,by simp⟩
theorem sizes_many (l:List Tr):∀ n,sizes (List.replicate n l).flatten=n*sizes l
 | 0=>by simp [sizes]
 | n+1=>by rw [List.replicate_succ,List.flatten_cons,sizes_append,sizes_many l n,Nat.succ_mul];omega
theorem deeps_many (l:List Tr):∀ n,0 < n→deeps (List.replicate n l).flatten=deeps l
 | 1,_=>by simp
 | n+2,_=>by rw [List.replicate_succ,List.flatten_cons,deeps_append,deeps_many l (n+1) (by omega)];omega
theorem length_many (l:List Tr) (n:Nat):(List.replicate n l).flatten.length=n*l.length:=by rw [List.length_flatten];simp
theorem min_mul {n:Nat} {s c:Int} (hs:0≤s) (hc:0 < c) (hn:0 < n):min ((n:Int)*min s c) c=min ((n:Int)*s) c:=by
 by_cases h:s≤c
 ·rw [Int.min_eq_left h]
 ·have h1:c≤s:=by omega
  rw [Int.min_eq_right h1]
  have a1:c≤(n:Int)*c:=by
   have:=Int.mul_le_mul_of_nonneg_right (show (1:Int)≤n by omega) (Int.le_of_lt hc)
   rwa [Int.one_mul] at this
  have a2:c≤(n:Int)*s:=by
   have:=Int.mul_le_mul_of_nonneg_right (show (1:Int)≤n by omega) hs
   rw [Int.one_mul] at this
   omega
  rw [Int.min_eq_right a1,Int.min_eq_right a2]
theorem put_empty {t:Tr} (h:t.kind=1):putT t=[]:=by unfold putT;rw [if_pos h]
theorem ar_size {js sl z zl c:Int} (h1:min js (c - 1)=min sl (c - 1)) (h2:0≤js) (h3:0≤sl) (m1:min z (c - 1)=min zl (c - 1)) (p1:0≤z) (p2:0≤zl) (hc:1000≤c) :
  min (min (js+z) c) (c - 1)=min (sl+zl) (c - 1)∧0≤min (js+z) c∧min (js+z) c≤c:=by omega
theorem ar_deep {jd dl d d2 c:Int} (h1:min jd (c - 1)=min dl (c - 1)) (h2:0≤jd) (h3:jd≤c) (m1:min d (c - 1)=min d2 (c - 1)) (p1:0≤d) (p2:d≤c):min (max jd d) (c - 1)=min (max dl d2) (c - 1)∧0≤max jd d∧max jd d≤c:=by omega
theorem ar_subs {js l z zl c:Int} (h1:js=min l c) (h2:0≤l) (m1:min z c=min zl c) (p1:0≤z) (p2:0≤zl) (hc:1000≤c):min (js+z) c=min (l+zl) c:=by omega
theorem ar_pred {x c:Int}:min (x+1) c - 1=min x (c - 1):=by omega
theorem ar_low {x c:Int}:min (min x c) (c - 1)=min x (c - 1):=by omega
theorem ar_low2 {x c:Int}:min (min x (c - 1)) (c - 1)=min x (c - 1):=by omega
theorem ar_down {a b c:Int} (h:min a c=min b c):min a (c - 1)=min b (c - 1):=by omega
theorem capF_size1 (t:Tr):(capF t).size - 1=min ((sizes t.subs:Nat):Int) (cN - 1):=by
 rw [capF_size,size_subs,Int.natCast_add];exact ar_pred
theorem capF_deep1 (t:Tr):(capF t).deep - 1=min ((deeps t.subs:Nat):Int) (cD - 1):=by
 rw [capF_deep,deep_subs,Int.natCast_add];exact ar_pred
theorem JR.put {j:Jn} {l:List Tr} {t:Tr} (h:JR j l) (ht:allB t=true) (n:Nat):JR (jput j (capF t) n) (l++(List.replicate n (putT t)).flatten):=by
 obtain ⟨h1,h2,h3,h4,h5,h6⟩:=h
 by_cases h0:n=0∨t.kind=1
 ·have e1:(List.replicate n (putT t)).flatten=[]:=by
   rcases h0 with rfl | h0
   ·rfl
   ·rw [put_empty h0];simp
  have e2:jput1 j (capF t) n=j:=by unfold jput1;rw [if_pos (by rcases h0 with h | h;exact .inl (by omega);exact .inr (by rw [capF_kind];exact h))]
  rw [e1,zzY,jput,e2]
  have e3:min j.size cN=j.size:=Int.min_eq_left h2.2
  have e4:min j.subs cN=j.subs:=by rw [h5];exact Int.min_eq_left (Int.min_le_right _ _)
  rw [e3,e4]
  exact ⟨h1,h2,h3,h4,h5,h6⟩
 have hn:0 < n:=Nat.pos_of_ne_zero fun e=>h0 (.inl e)
 have hk1:t.kind≠1:=fun e=>h0 (.inr e)
 have hc1:¬((n:Int)=0∨(capF t).kind=1):=by
  rintro (e | e)
  ·exact h0 (.inl (by exact_mod_cast e))
  ·rw [capF_kind] at e;exact hk1 e
 have hcn:0 < cN - 1:=by decide
 have hcn':0 < cN:=by decide
 by_cases hk4:t.kind=4
 ·have hput:putT t=t.subs:=by unfold putT;rw [if_neg hk1,if_pos hk4]
  have hlen:2≤t.subs.length:=by
   cases kinds ht with
   | cat l h2 _=>exact h2
   | _=>cases hk4
  have ejp:jput1 j (capF t) n=⟨j.size+n*((capF t).size - 1),max j.deep ((capF t).deep - 1),j.subs+n*(capF t).subs,j.only⟩:=by unfold jput1;rw [if_neg hc1,if_pos (by rw [capF_kind];exact hk4)]
  rw [jput,ejp,hput]
  simp only []
  rw [capF_subs hk4,capF_size1,capF_deep1]
  have a1:=ar_size h1 h2.1 (zzj _) (min_mul (n:=n) (s:=((sizes t.subs:Nat):Int)) (c:=cN - 1) (zzj _) hcn hn) (Int.mul_nonneg (zzj _) (Int.le_min.2 ⟨zzj _,Int.le_of_lt hcn⟩)) (Int.mul_nonneg (zzj _) (zzj _)) cN_ge
  have a2:=ar_deep h3 h4.1 h4.2 (d:=min ((deeps t.subs:Nat):Int) (cD - 1)) (d2:=((deeps t.subs:Nat):Int)) ar_low2 (Int.le_min.2 ⟨zzj _,by decide⟩) (Int.le_trans (Int.min_le_right _ _) (by decide))
  have a3:=ar_subs h5 (zzj _) (min_mul (n:=n) (s:=((t.subs.length:Nat):Int)) (c:=cN) (zzj _) hcn' hn) (Int.mul_nonneg (zzj _) (Int.le_min.2 ⟨zzj _,Int.le_of_lt hcn'⟩)) (Int.mul_nonneg (zzj _) (zzj _)) cN_ge
  refine ⟨?_,a1.2,?_,a2.2,?_,?_⟩
  ·rw [sizes_append,sizes_many,Int.natCast_add,Int.natCast_mul]
   exact a1.1
  ·rw [deeps_append,deeps_many _ _ hn]
   rw [show ((max (deeps l) (deeps t.subs):Nat):Int)=max ((deeps l:Nat):Int) ((deeps t.subs:Nat):Int) from by omega]
   exact a2.1
  ·rw [zzG,length_many,Int.natCast_add,Int.natCast_mul]
   exact a3
  ·intro x hx
   exfalso
   have:=congrArg List.length hx
   rw [zzG,length_many,List.length_singleton] at this
   have:2≤n*t.subs.length:=zzU hlen (Nat.le_mul_of_pos_left _ hn)
   omega
 ·have hput:putT t=[t]:=by unfold putT;rw [if_neg hk1,if_neg hk4]
  have ejp:jput1 j (capF t) n=⟨j.size+n*(capF t).size,max j.deep (capF t).deep,j.subs+n,capF t⟩:=by unfold jput1;rw [if_neg hc1,if_neg (by rw [capF_kind];exact hk4)]
  have hsg:sizes [t]=size t:=by simp [sizes]
  have hdg:deeps [t]=deep t:=by simp [deeps]
  rw [jput,ejp,hput]
  simp only []
  rw [capF_size,capF_deep]
  have a1:=ar_size h1 h2.1 (zzj _) (ar_down (min_mul (n:=n) (s:=((size t:Nat):Int)) (c:=cN) (zzj _) hcn' hn)) (Int.mul_nonneg (zzj _) (Int.le_min.2 ⟨zzj _,Int.le_of_lt hcn'⟩)) (Int.mul_nonneg (zzj _) (zzj _)) cN_ge
  have a2:=ar_deep h3 h4.1 h4.2 (d:=min ((deep t:Nat):Int) cD) (d2:=((deep t:Nat):Int)) ar_low (Int.le_min.2 ⟨zzj _,by decide⟩) (Int.min_le_right _ _)
  have a3:=ar_subs h5 (zzj _) (z:=(n:Int)) (zl:=(n:Int)) rfl (zzj _) (zzj _) cN_ge
  refine ⟨?_,a1.2,?_,a2.2,?_,?_⟩
  ·rw [sizes_append,sizes_many,hsg,Int.natCast_add,Int.natCast_mul]
   exact a1.1
  ·rw [deeps_append,deeps_many _ _ hn,hdg]
   rw [show ((max (deeps l) (deep t):Nat):Int)=max ((deeps l:Nat):Int) ((deep t:Nat):Int) from by omega]
   exact a2.1
  ·rw [zzG,length_many,List.length_singleton,Nat.mul_one,Int.natCast_add]
   exact a3
  ·intro x hx
   have hl:=congrArg List.length hx
   rw [zzG,length_many,List.length_singleton,List.length_singleton] at hl
   have hl0:l=[]:=zzq (by omega)
   obtain rfl:n=1:=by omega
   rw [hl0] at hx
   simp at hx
   rw [hx]
theorem ar_up {a x c:Int} (h:min a (c - 1)=min x (c - 1)):min (x+1) c=min (a+1) c:=by omega
theorem ar_two {l c s:Int} (h:s=min (l+2) c) (h0:0≤l) (hc:1000≤c):s≠0∧s≠1:=by omega
theorem JR.form {j:Jn} {l:List Tr} (h:JR j l):jform j=capF (row l):=by
 obtain ⟨h1,h2,h3,h4,h5,h6⟩:=h
 rcases l with _ | ⟨a,_ | ⟨b,l⟩⟩
 ·have:j.subs=0:=by rw [h5];decide
  rw [jform,if_pos this];decide
 ·have:j.subs=1:=by rw [h5];exact (by decide:min ((1:Nat):Int) cN=1)
  rw [jform,if_neg (by rw [this];decide),if_pos this,h6 a rfl];rfl
 ·have h5':j.subs=min ((l.length:Nat)+2:Int) cN:=h5
  obtain ⟨e0,e1⟩:=ar_two h5' (zzj _) cN_ge
  rw [jform,if_neg e0,if_neg e1]
  change boundF _=capF (catT (a :: b :: l))
  symm
  have es:size (catT (a :: b :: l))=sizes (a :: b :: l)+1:=size_subs _
  have ed:deep (catT (a :: b :: l))=deeps (a :: b :: l)+1:=deep_subs _
  unfold boundF
  simp only []
  refine capF_mk rfl ?_ ?_ ?_
  ·rw [es,Int.natCast_add];exact ar_up h1
  ·rw [ed,Int.natCast_add];exact ar_up h3
  ·exact (if_pos rfl).trans h5'.symm
theorem ar_same (x c:Int):min (min x c) c=min x c:=by omega
theorem ar_inc {x c:Int}:min (x+1) c=min (min x c+1) c:=by omega
theorem above_rep (y:Tr) (mn mx:Int) (lz:Bool):aboveF 6 (capF y)=capF (repT y mn mx lz):=by
 have h1:size (repT y mn mx lz)=size y+1:=by rw [size_subs];simp [repT,Tr.subs,sizes]
 have h2:deep (repT y mn mx lz)=deep y+1:=by rw [deep_subs];simp [repT,Tr.subs,deeps]
 have hN:=cN_ge
 have hD:=cD_ge
 symm
 unfold aboveF boundF
 simp only [capF_size,capF_deep]
 refine capF_mk rfl ?_ ?_ ?_
 ·rw [h1,Int.natCast_add];exact ar_inc
 ·rw [h2,Int.natCast_add];exact ar_inc
 ·exact if_neg (show ¬((6:Int)=4) by decide)
theorem opt_form {y:Tr} (h:Good y) (lz:Bool):∀ n,optF (capF y) n=capF (optS y lz n)
 | 0=>rfl
 | n+1=>by
  rw [optF,opt_form h lz n]
  have h1:=(JR.nil.put h.1 1).put (opt_good h lz n).1 1
  have e:jform (jput (jput j0 (capF y) 1) (capF (optS y lz n)) 1)=capF (row (putT y++putT (optS y lz n))):=by
   have:=h1.form
   simpa using this
  rw [e,optS]
  exact above_rep _ _ _ _
theorem times_form {y:Tr} (h:Good y) {mn mx:Int} (lz:Bool) (h0:0≤mn):timesF (capF y) mn mx=capF (unfoldS y mn mx lz):=by
 unfold timesF unfoldS
 by_cases h1:mx < 0∧mn=0
 ·rw [if_pos h1,if_pos h1];exact above_rep _ _ _ _
 rw [if_neg h1,if_neg h1]
 by_cases h2:mx < 0
 ·rw [if_pos h2,if_pos h2,above_rep y 1 (-1) lz]
  have h3:=(JR.nil.put h.1 (mn - 1).toNat).put (rep_good h (mn:=1) (mx:=-1) lz (.inr (.inl ⟨rfl,rfl⟩))).1 1
  rw [show (((mn - 1).toNat:Nat):Int)=mn - 1 from by omega] at h3
  have:=h3.form
  simpa using this
 ·rw [if_neg h2,if_neg h2,opt_form h lz]
  have h3:=(JR.nil.put h.1 mn.toNat).put (opt_good h lz (mx - mn).toNat).1 1
  rw [show ((mn.toNat:Nat):Int)=mn from by omega] at h3
  have:=h3.form
  simpa using this
theorem times_zero {y:Tr} (h:Good y) {mn:Int} (h0:0≤mn) (hm:mn≤0):timesF (capF y) mn 0=capF emptyT:=by
 obtain rfl:mn=0:=by omega
 have h3:=(JR.nil.put h.1 0).put good_empty.1 1
 have:=h3.form
 simp [put_empty (show emptyT.kind=1 from rfl)] at this
 exact this
theorem ar_alt {p sr z c:Int} (h:p=min (sr+1) c) (h0:0≤sr) (_z0:0≤z) (z1:Int) (hz:min z1 c=min z c) (hz0:0≤z1):min (p+z1) c=min (sr+z+1) c:=by omega
theorem ar_alt1 {p sr z c:Int} (h:p=min (sr+1) c) (h0:0≤sr) (z0:0≤z) (hc:1000≤c):min (p+min z (c - 1)) c=min (sr+z+1) c:=by omega
theorem alt_form:∀ (l r:List Tr) (p:Int × Int),(∀ s∈l,allB s=true)→p.1=min (((sizes r:Nat):Int)+1) cN→min p.2 (cD - 1)=min ((deeps r:Nat):Int) (cD - 1)→0≤p.2→p.2≤cD →
  ∃ q,(l.map capF).foldl altPutF p=q∧q.1=min (((sizes (r++l.flatMap altPut):Nat):Int)+1) cN∧min q.2 (cD - 1)=min ((deeps (r++l.flatMap altPut):Nat):Int) (cD - 1)∧0≤q.2∧q.2≤cD
 | [],r,p,_,h1,h2,h3,h4=>⟨p,rfl,by rw [List.flatMap_nil,zzY];exact h1,by rw [List.flatMap_nil,zzY];exact h2,h3,h4⟩
 | t :: l,r,p,h,h1,h2,h3,h4=>by
  rw [zzS,List.foldl_cons,zzl,←zyF]
  by_cases h5:t.kind=5
  ·have e1:altPutF p (capF t)=(min (p.1+((capF t).size - 1)) cN,max p.2 ((capF t).deep - 1)):=by unfold altPutF;rw [if_pos (by rw [capF_kind];exact h5)]
   have e2:altPut t=t.subs:=by unfold altPut;rw [if_pos h5]
   have a2:=ar_deep h2 h3 h4 (d:=min ((deeps t.subs:Nat):Int) (cD - 1)) (d2:=((deeps t.subs:Nat):Int)) ar_low2 (Int.le_min.2 ⟨zzj _,by decide⟩) (Int.le_trans (Int.min_le_right _ _) (by decide))
   rw [e1,e2,capF_size1,capF_deep1]
   refine alt_form l (r++t.subs) _ (fun s hs=>h s (zzI _ hs)) ?_ ?_ a2.2.1 a2.2.2
   ·rw [sizes_append,Int.natCast_add]
    exact ar_alt1 h1 (zzj _) (zzj _) cN_ge
   ·rw [deeps_append,show ((max (deeps r) (deeps t.subs):Nat):Int)=max ((deeps r:Nat):Int) ((deeps t.subs:Nat):Int) from by omega]
    exact a2.1
  ·have e1:altPutF p (capF t)=(min (p.1+(capF t).size) cN,max p.2 (capF t).deep):=by unfold altPutF;rw [if_neg (by rw [capF_kind];exact h5)]
   have e2:altPut t=[t]:=by unfold altPut;rw [if_neg h5]
   have hsg:sizes [t]=size t:=by simp [sizes]
   have hdg:deeps [t]=deep t:=by simp [deeps]
   have a2:=ar_deep h2 h3 h4 (d:=min ((deep t:Nat):Int) cD) (d2:=((deep t:Nat):Int)) ar_low (Int.le_min.2 ⟨zzj _,by decide⟩) (Int.min_le_right _ _)
   rw [e1,e2,capF_size,capF_deep]
   refine alt_form l (r++[t]) _ (fun s hs=>h s (zzI _ hs)) ?_ ?_ a2.2.1 a2.2.2
   ·rw [sizes_append,hsg,Int.natCast_add]
    exact ar_alt h1 (zzj _) (zzj _) _ (by rw [Int.min_assoc,Int.min_self]) (Int.le_min.2 ⟨zzj _,by decide⟩)
   ·rw [deeps_append,hdg,show ((max (deeps r) (deep t):Nat):Int)=max ((deeps r:Nat):Int) ((deep t:Nat):Int) from by omega]
    exact a2.1
theorem leaf_form (k:Int) (r:List (Int × Int)) (a:Int) (hk:k < 4):reckonS (.mk k r a [] 0 0 false 0 .empty)=capF (simpleS (.mk k r a [] 0 0 false 0 .empty)):=by
 rw [reckonS,simpleS,if_neg (by omega),if_neg (by omega),if_neg (by omega),if_neg (by omega),if_neg (by omega),if_neg (by omega),if_neg (by omega),if_neg (by omega)]
 symm
 refine capF_mk rfl ?_ ?_ ?_
 ·rw [show size (.mk k r a [] 0 0 false 0 .empty)=1 from rfl];decide
 ·rw [show deep (.mk k r a [] 0 0 false 0 .empty)=1 from rfl];decide
 ·rw [if_neg];change ¬(k=4);omega
theorem reckon_form:∀ t:Tr,allB t=true→reckonS t=capF (simpleS t):=by
 intro t
 induction t using Tr.ind with
 | h t ih =>
  intro h
  cases kinds h with
  | empty=>exact leaf_form 1 [] 0 (by decide)
  | cls r hr=>exact leaf_form 2 r 0 (by decide)
  | ass a ha=>exact leaf_form 3 [] a (by decide)
  | cat l h2 hs =>
   rw [catT,simpleS,simplesS_map,if_neg (by decide),if_pos rfl,reckonS,reckonsS_map,if_neg (by decide),if_pos rfl]
   have key:∀ (l r:List Tr) (j:Jn),(∀ s∈l,allB s=true∧reckonS s=capF (simpleS s))→JR j r→JR ((l.map reckonS).foldl (fun j f=>jput j f 1) j) (r++(l.map simpleS).flatMap putT):=by
    intro l
    induction l with
    | nil=>intro r j _ hj;simpa using hj
    | cons t l ihl =>
     intro r j hl hj
     have ht:=hl t zzH
     rw [zzS,List.foldl_cons,zzS,zzl,←zyF,ht.2]
     refine ihl _ _ (fun s hs=>hl s (zzI _ hs)) ?_
     have:=hj.put (simple_good t ht.1).1 1
     simpa using this
   have:=(key l [] j0 (fun s hs'=>⟨hs s hs',ih s hs' (hs s hs')⟩) JR.nil).form
   simpa using this
  | alt l h2 hs =>
   rw [altT,simpleS,simplesS_map,if_neg (by decide),if_neg (by decide),if_pos rfl,reckonS,reckonsS_map,if_neg (by decide),if_neg (by decide),if_pos rfl]
   have e:l.map reckonS=(l.map simpleS).map capF:=by
    rw [List.map_map]
    exact List.map_congr_left fun s hs'=>ih s hs' (hs s hs')
   obtain ⟨q,e1,e2,e3,e4,e5⟩:=alt_form (l.map simpleS) [] (1,0) (fun s hs'=>by obtain ⟨u,hu,rfl⟩:=zzp.1 hs';exact (simple_good u (hs u hu)).1) (by simp only [sizes];decide) (by simp only [deeps];decide) (by decide) (by decide)
   rw [e,e1]
   simp only [zzn] at e2 e3
   have hN:=cN_ge
   have hD:=cD_ge
   symm
   unfold boundF
   have f1:size (altT ((l.map simpleS).flatMap altPut))=sizes ((l.map simpleS).flatMap altPut)+1:=size_subs _
   have f2:deep (altT ((l.map simpleS).flatMap altPut))=deeps ((l.map simpleS).flatMap altPut)+1:=deep_subs _
   simp only []
   refine capF_mk rfl ?_ ?_ ?_
   ·rw [f1,Int.natCast_add,e2];exact (ar_same _ _).symm
   ·rw [f2,Int.natCast_add];exact ar_up e3
   ·exact if_neg (show ¬((5:Int)=4) by decide)
  | rep x n m z hx h0 h1 hm =>
   rw [repT,simpleS,simplesS_map,if_neg (by decide),if_neg (by decide),if_neg (by decide),if_pos rfl,reckonS,reckonsS_map,if_neg (by decide),if_neg (by decide),if_neg (by decide),if_pos rfl]
   have hi:=ih x zzH hx
   simp only [zzS,zzt,List.headD_cons]
   rw [hi]
   by_cases hm0:m=0
   ·rw [if_pos hm0,hm0]
    exact times_zero (simple_good x hx) h0 (by omega)
   ·rw [if_neg hm0]
    exact times_form (simple_good x hx) z h0
  | group x i s hx h0 h1 hm =>
   rw [groupT,simpleS,simplesS_map,if_pos rfl,reckonS,reckonsS_map,if_pos rfl]
   have hi:=ih x zzH hx
   simp only [zzS,zzt,List.headD_cons]
   rw [hi]
   have f1:size (groupT (simpleS x) i s)=size (simpleS x)+1:=by rw [size_subs];simp [groupT,Tr.subs,sizes]
   have f2:deep (groupT (simpleS x) i s)=deep (simpleS x)+1:=by rw [deep_subs];simp [groupT,Tr.subs,deeps]
   have hN:=cN_ge
   have hD:=cD_ge
   symm
   unfold aboveF boundF
   simp only [capF_size,capF_deep]
   refine capF_mk rfl ?_ ?_ ?_
   ·rw [f1,Int.natCast_add];exact ar_inc
   ·rw [f2,Int.natCast_add];exact ar_inc
   ·exact if_neg (show ¬((7:Int)=4) by decide)
theorem simple_sizes {t:Tr} (h:allB t=true):(reckonS t).size=min ((size (simpleS t):Nat):Int) cN∧(reckonS t).deep=min ((deep (simpleS t):Nat):Int) cD:=by
 rw [reckon_form t h,capF_size,capF_deep];exact ⟨rfl,rfl⟩
theorem fits_sound {t:Tr} (h:allB t=true) (h1:(reckonS t).size≤200000) (h2:(reckonS t).deep≤10000):soundB (simpleS t)=true∧(reckonS t).size=((size (simpleS t):Nat):Int):=by
 obtain ⟨e1,e2⟩:=simple_sizes h
 rw [e1] at h1 ⊢
 rw [e2] at h2
 unfold cN at *
 unfold cD at h2
 have f1:size (simpleS t)≤200000:=by omega
 have f2:deep (simpleS t)≤10000:=by omega
 refine ⟨?_,by omega⟩
 unfold soundB
 rw [(simple_good t h).1,decide_eq_true f1,decide_eq_true f2];rfl
theorem sound_all {t:Tr} (h:soundB t=true):allB t=true∧deep t≤10000∧size t≤200000:=by
 unfold soundB at h
 simp only [zzc,zzg] at h
 exact ⟨h.1.1,h.1.2,h.2⟩
abbrev Lab:=Int × ByteArray
mutual
def occ:Tr→List Lab
 | .mk k _ _ l _ m _ i s=>if k=6∧m=0 then [] else (if k=7 then [(i,s)] else [])++occs l
def occs:List Tr→List Lab
 | []=>[]
 | t :: l=>occ t++occs l
end
theorem occs_append:∀ a b:List Tr,occs (a++b)=occs a++occs b
 | [],b=>rfl
 | t :: a,b=>by rw [zzi,occs,occs,occs_append a b,zyF]
theorem occ_row (l:List Tr):occ (row l)=occs l:=by
 match l with
 | []=>rfl
 | [x]=>simp [row,occs]
 | a :: b :: l =>
  change occ (catT (a :: b :: l))=_
  rw [catT,occ,if_neg (by decide),if_neg (by decide),zzn]
theorem occ_cat (l:List Tr):occ (catT l)=occs l:=by rw [catT,occ,if_neg (by decide),if_neg (by decide),zzn]
theorem occ_alt (l:List Tr):occ (altT l)=occs l:=by rw [altT,occ,if_neg (by decide),if_neg (by decide),zzn]
theorem occ_rep (x:Tr) {n m:Int} {z:Bool} (hm:m≠0):occ (repT x n m z)=occ x:=by
 rw [repT,occ,if_neg (by rintro ⟨_,h⟩;exact hm h),if_neg (by decide),zzn,occs,occs,zzY]
theorem occ_put {t:Tr} (h:allB t=true):occs (putT t)=occ t:=by
 cases kinds h with
 | empty=>rfl
 | cat l _ _=>rw [occ_cat];rfl
 | cls r hr=>simp [putT,Tr.kind,occs]
 | ass a ha=>simp [putT,Tr.kind,occs]
 | alt l _ _=>rw [show putT (altT l)=[altT l] from rfl,occs,occs,zzY]
 | rep x n m z _ _ _ _=>rw [show putT (repT x n m z)=[repT x n m z] from rfl,occs,occs,zzY]
 | group x i s _ _ _ _=>rw [show putT (groupT x i s)=[groupT x i s] from rfl,occs,occs,zzY]
theorem occ_altPut {t:Tr} (h:allB t=true):occs (altPut t)=occ t:=by
 unfold altPut
 by_cases h5:t.kind=5
 ·rw [if_pos h5]
  cases kinds h with
  | alt l _ _=>rw [occ_alt];rfl
  | _=>cases h5
 ·rw [if_neg h5,occs,occs,zzY]
theorem occ_opt {y:Tr} (h:Good y) (lz:Bool) (u:Lab):∀ n,u∈occ (optS y lz n) ↔ 0 < n∧u∈occ y
 | 0=>by
  have e:occ emptyT=[]:=rfl
  rw [optS,e];simp
 | n+1=>by
  have ih:=occ_opt h lz u n
  rw [optS,occ_rep _ (by decide),occ_row,occs_append,occ_put h.1,occ_put (opt_good h lz n).1,zzM,ih]
  constructor
  ·rintro (h | h)
   ·exact ⟨Nat.succ_pos _,h⟩
   ·exact ⟨Nat.succ_pos _,h.2⟩
  ·rintro ⟨_,h⟩
   exact .inl h
theorem occ_many {y:Tr} (h:Good y) (u:Lab):∀ n,u∈occs (List.replicate n (putT y)).flatten ↔ 0 < n∧u∈occ y
 | 0=>by simp [occs]
 | n+1=>by
  rw [List.replicate_succ,List.flatten_cons,occs_append,occ_put h.1,zzM,occ_many h u n]
  constructor
  ·rintro (h | h)
   ·exact ⟨Nat.succ_pos _,h⟩
   ·exact ⟨Nat.succ_pos _,h.2⟩
  ·rintro ⟨_,h⟩
   exact .inl h
theorem occ_unfold {y:Tr} (h:Good y) {mn mx:Int} (lz:Bool) (h0:0≤mn) (hx:mx≠0) (u:Lab):u∈occ (unfoldS y mn mx lz) ↔ u∈occ y:=by
 unfold unfoldS
 split
 ·rw [occ_rep _ (by decide)]
 ·split
  ·rw [occ_row,occs_append,occ_put (rep_good h lz (.inr (.inl ⟨rfl,rfl⟩))).1,occ_rep _ (by decide),zzM,occ_many h u]
   constructor
   ·rintro (h | h)
    ·exact h.2
    ·exact h
   ·exact .inr
  ·rename_i hn hm2
   rw [occ_row,occs_append,occ_put (opt_good h lz _).1,zzM,occ_many h u,occ_opt h lz u]
   constructor
   ·rintro (h | h)
    ·exact h.2
    ·exact h.2
   ·intro hu
    by_cases hp:0 < mn
    ·exact .inl ⟨by omega,hu⟩
    ·exact .inr ⟨by omega,hu⟩
theorem occs_congr {l:List Tr} {f:Tr→List Tr} (u:Lab) (h:∀ s∈l,u∈occs (f s) ↔ u∈occ s):u∈occs (l.flatMap f) ↔ u∈occs l:=by
 induction l with
 | nil=>exact Iff.rfl
 | cons t l ih =>
  rw [zzl,occs_append,occs,zzM,zzM,h t zzH,ih fun s hs=>h s (zzI _ hs)]
theorem simple_occ:∀ t:Tr,allB t=true→∀ u,u∈occ (simpleS t) ↔ u∈occ t:=by
 intro t
 induction t using Tr.ind with
 | h t ih =>
  intro h u
  have hl:∀ l:List Tr,(∀ s∈l,u∈occ (simpleS s) ↔ u∈occ s)→(u∈occs (l.map simpleS) ↔ u∈occs l):=by
   intro l
   induction l with
   | nil=>intro _;exact Iff.rfl
   | cons t l ihl =>
    intro hs
    rw [zzS,occs,occs,zzM,zzM,hs t zzH,ihl fun s h=>hs s (zzI _ h)]
  cases kinds h with
  | empty=>exact Iff.rfl
  | cls r hr=>exact Iff.rfl
  | ass a ha=>exact Iff.rfl
  | cat l h2 hs =>
   rw [catT,simpleS,simplesS_map,if_neg (by decide),if_pos rfl,occ_row,←catT,occ_cat]
   rw [occs_congr u (fun s hs'=>by obtain ⟨x,hx,rfl⟩:=zzp.1 hs';rw [occ_put (simple_good x (hs x hx)).1])]
   exact hl l fun s hs'=>ih s hs' (hs s hs') u
  | alt l h2 hs =>
   rw [altT,simpleS,simplesS_map,if_neg (by decide),if_neg (by decide),if_pos rfl,occ_alt,←altT,occ_alt]
   rw [occs_congr u (fun s hs'=>by obtain ⟨x,hx,rfl⟩:=zzp.1 hs';rw [occ_altPut (simple_good x (hs x hx)).1])]
   exact hl l fun s hs'=>ih s hs' (hs s hs') u
  | rep x n m z hx h0 h1 hm =>
   have hi:=ih x zzH hx u
   rw [repT,simpleS,simplesS_map,if_neg (by decide),if_neg (by decide),if_neg (by decide),if_pos rfl]
   by_cases hm0:m=0
   ·rw [if_pos hm0,occ,if_pos ⟨rfl,hm0⟩];exact Iff.rfl
   ·rw [if_neg hm0,←repT,occ_rep _ hm0]
    simp only [zzS,zzt,List.headD_cons]
    rw [occ_unfold (simple_good x hx) z h0 hm0]
    exact hi
  | group x i s hx h0 h1 hm =>
   have hi:=ih x zzH hx u
   rw [groupT,simpleS,simplesS_map,if_pos rfl]
   simp only [zzS,zzt,List.headD_cons,groupT]
   have e:∀ y:Tr,occ (.mk 7 [] 0 [y] 0 0 false i s)=[(i,s)]++occ y:=fun y=>by
    rw [occ,if_neg (by rintro ⟨h,_⟩;cases h),if_pos rfl,occs,occs,zzY]
   rw [e,e,zzM,zzM,hi]
end Go.Proofs.YtgkclnmmjedmkaaGreat.Tr
namespace Go.Proofs.YtgkclnmmjedmkaaGreat
open Go.RowKit Mach
theorem there_any (i n:Int) (bx:Nat) (w:World) (hc:w.cell? ⟨bx,0,none⟩=some (.int .i64 n)) :
  Calls Tryz.prog 88 #[.int .i64 i,.pointer (some ⟨bx,0,none⟩)] w fun e w'=>e=.returned (.bool (decide (0≤i∧i < n)))∧w=w':=by
 by_cases h1:0≤i <;> by_cases h2:i < n
 all_goals
  go_enter Tryz.func88,Tryz.ntmps88
  go_wp2_with fail
  go_ret
  exact ⟨ret_bool (by simp [h1,h2]),rfl⟩
theorem may_any (I:Ins) (A:Option Addr) (rn rc:Nat) (n caps:Int) (w:World) (hr:Reads w w.heap.size 2 A rn rc (flat I.rng)) :
  Calls Tryz.prog 59 #[.agg #[.int .i64 I.op,.int .i64 I.x,.int .i64 I.y,.int .i64 I.arg,.slice A rn rc],.int .i64 n,.int .i64 caps] w fun e w'=>e=.returned (.bool (mayB I n caps))∧Below w.heap.size w w':=by
 obtain ⟨op,x,y,arg,rng⟩:=I
 simp only [] at hr ⊢
 have hmf:∀ (fn:Fn) (first cap:Array Value) (w:World),(Instr.makeFunc fn first cap).run Tryz.prog w=.ok (.func fn first cap) w:=fun _ _ _ _=>rfl
 have hlen:rng.length=rn:=by have:=hr.len;rw [flat_length] at this;omega
 have HLEN:=zzA hlen
 have hnc:=hr.le
 have hcap:=hr.cap
 have HR:=zzA hr
 have HNIL:=zzA (show rng=[] ↔ rn=0 from by rw [←hlen];exact ⟨fun h=>by rw [h];rfl,zzq⟩)
 clear hr hlen
 rcases (show op=1∨op=2∨op=3∨op=4∨op=5∨op=6∨op=7∨(op < 1∨7 < op) from by omega) with rfl | rfl | rfl | rfl | rfl | rfl | rfl | hop
 case' inr.inr.inr.inr.inr.inr.inr=>rcases hop with hop | hop
 all_goals
  go_enter Tryz.func59,Tryz.ntmps59
  go_wp2_with (first
   | (go_at_call 88;refine (there_any _ n (w.heap.size+1) _ (by go_simp)).mono ?_;rintro e w' ⟨rfl,rfl⟩)
   | (go_at_call 60;refine (right_any A rn rc rng _ (((HR.out.alloc (zzF _) _).alloc (by simp) _).more (by simp;omega))).mono ?_;rintro e w' ⟨rfl,hb2⟩;have hb3:=((((zzb w.heap.size w).alloc (zzF _) _).alloc (by simp) _).trans (hb2.mono (by simp;omega)))))
  all_goals go_ret
  all_goals refine ⟨ret_bool ?_,by first | exact ((zzb _ _).alloc (zzF _) _).alloc (by simp) _ | exact hb3⟩
  all_goals unfold mayB
  all_goals simp only [HNIL.out,ne_eq]
  all_goals (first | (simp [isAs, *];done) | (simp [isAs, *];omega) | (simp_all [isAs];done) | (simp_all [isAs];omega) | (rw [Bool.eq_iff_iff];simp [isAs, *];done) | (rw [Bool.eq_iff_iff];simp [isAs, *];omega) | (rw [Bool.eq_iff_iff];simp_all;done))
end Go.Proofs.YtgkclnmmjedmkaaGreat
