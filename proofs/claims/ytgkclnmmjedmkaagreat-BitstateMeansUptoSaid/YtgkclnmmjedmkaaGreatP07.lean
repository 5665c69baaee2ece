/- look.At -/
import Derived.Laws.EntriesVeiled
import Derived.Test.YtgkclnmmjedmkaaGreatP06
set_option maxRecDepth 100000
set_option maxHeartbeats 4000000
namespace Go.Proofs.YtgkclnmmjedmkaaGreat
open Go.RowKit Mach
section
variable (A:Option Addr) (n c k:Nat) (t:List Int) (w:World)
theorem edge_any (hr:Reads w w.heap.size 1 A n c (t.map (Value.int .i64))) (hk:k≤n):Calls Tryz.prog 95 #[.agg #[.slice A n c,.int .i64 (k:Int)]] w fun e w'=>e=.returned (.bool (hb t k 4))∧Below w.heap.size w w':=by
 have hb1:Below w.heap.size w (w.alloc (.cells #[.slice A n c,.int .i64 (k:Int)] 129)):=(zzb _ _).alloc (zzF _) _
 have hnc:=hr.le
 have hcap:=hr.cap
 have hl:t.length=n:=by have:=hr.len;simpa using this
 obtain ⟨B,hB⟩:∃ B,B=w.heap.size:=⟨_,rfl⟩
 have HR:=zzA hr
 have hx0:(w.alloc (.cells #[.slice A n c,.int .i64 (k:Int)] 129)).cell? ⟨w.heap.size,0,none⟩=some (.slice A n c):=(zyI w _ [.slice A n c,.int .i64 (k:Int)]).cell 0
 have hx1:(w.alloc (.cells #[.slice A n c,.int .i64 (k:Int)] 129)).cell? ⟨w.heap.size,1,none⟩=some (.int .i64 (k:Int)):=(zyI w _ [.slice A n c,.int .i64 (k:Int)]).cell 1
 have hsz:w.heap.size < (w.alloc (.cells #[.slice A n c,.int .i64 (k:Int)] 129)).heap.size:=by simp
 have HX0:=zzA hx0
 have HX1:=zzA hx1
 have HSZ:=zzA hsz
 have HB1:=zzA hb1
 have HL:=zzA hl
 -- what the two loads give, wherever they are run
 have H0:=zzA (show ∀ u,Below (w.alloc (.cells #[.slice A n c,.int .i64 (k:Int)] 129)).heap.size (w.alloc (.cells #[.slice A n c,.int .i64 (k:Int)] 129)) u→u.cell? ⟨w.heap.size,0,none⟩=some (.slice A n c)∧u.cell? ⟨w.heap.size,1,none⟩=some (.int .i64 (k:Int)) from fun u h=>⟨(h.cell (p:=⟨w.heap.size,0,none⟩) hsz).trans hx0,(h.cell (p:=⟨w.heap.size,1,none⟩) hsz).trans hx1⟩)
 have HT:=zzA (show ∀ u b off,A=some ⟨b,off,none⟩→Below (w.alloc (.cells #[.slice A n c,.int .i64 (k:Int)] 129)).heap.size (w.alloc (.cells #[.slice A n c,.int .i64 (k:Int)] 129)) u→∀ j,j < n→u.cell? ⟨b,off+j,none⟩=some (.int .i64 (t.getD j 0)) from fun u b off e h j hj=>by
  have h2:=hr.below (hb1.trans (h.mono (zzo hsz)))
  rw [e] at h2
  exact text_at h2 hj)
 have HF:=zzA (fun u=>first_any A n c k u)
 have HLA:=zzA (fun u=>last_any A n c k t u hl)
 have hW:∀ a,word a=word a:=fun _=>rfl
 obtain ⟨za,hza⟩:∃ z,z=t.getD (k - 1) 0:=⟨_,rfl⟩
 obtain ⟨zb,hzb⟩:∃ z,z=t.getD k 0:=⟨_,rfl⟩
 have HZA:=zzA hza
 have HZB:=zzA hzb
 have HHB:=zzA (show hb t k 4=((!decide (k=0) && word za) != (!decide (k=n) && word zb)) from by rw [hza,hzb,←hl];rfl)
 have HPOS:=zzA (show 0 < n→∃ b off,A=some ⟨b,off,none⟩ from fun h=>by obtain ⟨b,off,e,_⟩:=hr.at_ h;exact ⟨b,off,e⟩)
 clear hr hx0 hx1 hsz hb1 hl hW hza hzb hB B
 by_cases g1:k=0
 ·by_cases g2:k=n
  ·have h1:decide (k=0)=true:=decide_eq_true g1
   have h2:decide (k=t.length)=true:=decide_eq_true (by rw [HL.out];exact g2)
   have h3:decide (k=n)=true:=decide_eq_true g2
   have HR2:=zzA (show hb t k 4=false from by rw [HHB.out,h1,h3];simp)
   clear g1 g2 h3
   go_enter Tryz.func95,Tryz.ntmps95
   go_wp2_with (first | (go_at_call 91;refine (HF.out _).mono ?_;rintro e w1 ⟨rfl,hb2⟩;rw [h1];have hy0:w1.cell? ⟨w.heap.size,0,none⟩=some (.slice A n c):=(H0.out w1 hb2).1;have hy1:w1.cell? ⟨w.heap.size,1,none⟩=some (.int .i64 (k:Int)):=(H0.out w1 hb2).2) | (go_at_call 92;refine (HLA.out _).mono ?_;rintro e w2 ⟨rfl,hb3⟩;rw [h2];have hq2:=hb2.trans (hb3.mono hb2.size);have hz0:w2.cell? ⟨w.heap.size,0,none⟩=some (.slice A n c):=(H0.out w2 hq2).1;have hz1:w2.cell? ⟨w.heap.size,1,none⟩=some (.int .i64 (k:Int)):=(H0.out w2 hq2).2) | (go_at_call 106;refine (word_any _ _).mono ?_;rintro e w' ⟨rfl,rfl⟩))
   go_ret
   exact ⟨ret_bool (by first | exact HR2.out.symm | (rw [HR2.out];simp;done)),HB1.out.trans ((hb2.trans (hb3.mono hb2.size)).mono (zzo HSZ.out))⟩
  ·have h1:decide (k=0)=true:=decide_eq_true g1
   have h2:decide (k=t.length)=false:=decide_eq_false (by rw [HL.out];exact g2)
   obtain ⟨b,off,rfl⟩:=HPOS.out (by omega)
   have hlt:k < n:=by omega
   have h3:decide (k=n)=false:=decide_eq_false g2
   have HR2:=zzA (show hb t k 4=word zb from by rw [HHB.out,h1,h3];simp)
   clear g1 g2 h3
   go_enter Tryz.func95,Tryz.ntmps95
   go_wp2_with (first | (go_at_call 91;refine (HF.out _).mono ?_;rintro e w1 ⟨rfl,hb2⟩;rw [h1];have hy0:w1.cell? ⟨w.heap.size,0,none⟩=some (.slice (some ⟨b,off,none⟩) n c):=(H0.out w1 hb2).1;have hy1:w1.cell? ⟨w.heap.size,1,none⟩=some (.int .i64 (k:Int)):=(H0.out w1 hb2).2) | (go_at_call 92;refine (HLA.out _).mono ?_;rintro e w2 ⟨rfl,hb3⟩;rw [h2];have hq2:=hb2.trans (hb3.mono hb2.size);have hz0:w2.cell? ⟨w.heap.size,0,none⟩=some (.slice (some ⟨b,off,none⟩) n c):=(H0.out w2 hq2).1;have hz1:w2.cell? ⟨w.heap.size,1,none⟩=some (.int .i64 (k:Int)):=(H0.out w2 hq2).2;have hz2:w2.cell? ⟨b,off+k,none⟩=some (.int .i64 zb):=(by rw [HZB.out];exact HT.out w2 b off rfl hq2 k (by omega))) | (go_at_call 106;refine (word_any _ _).mono ?_;rintro e w' ⟨rfl,rfl⟩))
   go_ret
   exact ⟨ret_bool (by first | exact HR2.out.symm | (rw [HR2.out];simp;done)),HB1.out.trans ((hb2.trans (hb3.mono hb2.size)).mono (zzo HSZ.out))⟩
 ·by_cases g2:k=n
  ·have h1:decide (k=0)=false:=decide_eq_false g1
   have h2:decide (k=t.length)=true:=decide_eq_true (by rw [HL.out];exact g2)
   obtain ⟨b,off,rfl⟩:=HPOS.out (by omega)
   have hj1:((k:Int) - 1).toNat=k - 1:=by omega
   have hj2:0≤(k:Int) - 1:=by omega
   have hj3:(k:Int) - 1 < n:=by omega
   have h3:decide (k=n)=true:=decide_eq_true g2
   have HR2:=zzA (show hb t k 4=word za from by rw [HHB.out,h1,h3];simp)
   clear g1 g2 h3
   go_enter Tryz.func95,Tryz.ntmps95
   go_wp2_with (first | (go_at_call 91;refine (HF.out _).mono ?_;rintro e w1 ⟨rfl,hb2⟩;rw [h1];have hy0:w1.cell? ⟨w.heap.size,0,none⟩=some (.slice (some ⟨b,off,none⟩) n c):=(H0.out w1 hb2).1;have hy1:w1.cell? ⟨w.heap.size,1,none⟩=some (.int .i64 (k:Int)):=(H0.out w1 hb2).2;have hy2:w1.cell? ⟨b,off+(k - 1),none⟩=some (.int .i64 za):=(by rw [HZA.out];exact HT.out w1 b off rfl hb2 (k - 1) (by omega))) | (go_at_call 92;refine (HLA.out _).mono ?_;rintro e w2 ⟨rfl,hb3⟩;rw [h2];have hq2:=hb2.trans (hb3.mono hb2.size);have hz0:w2.cell? ⟨w.heap.size,0,none⟩=some (.slice (some ⟨b,off,none⟩) n c):=(H0.out w2 hq2).1;have hz1:w2.cell? ⟨w.heap.size,1,none⟩=some (.int .i64 (k:Int)):=(H0.out w2 hq2).2) | (go_at_call 106;refine (word_any _ _).mono ?_;rintro e w' ⟨rfl,rfl⟩))
   go_ret
   exact ⟨ret_bool (by first | exact HR2.out.symm | (rw [HR2.out];simp;done)),HB1.out.trans ((hb2.trans (hb3.mono hb2.size)).mono (zzo HSZ.out))⟩
  ·have h1:decide (k=0)=false:=decide_eq_false g1
   have h2:decide (k=t.length)=false:=decide_eq_false (by rw [HL.out];exact g2)
   obtain ⟨b,off,rfl⟩:=HPOS.out (by omega)
   have hj1:((k:Int) - 1).toNat=k - 1:=by omega
   have hj2:0≤(k:Int) - 1:=by omega
   have hj3:(k:Int) - 1 < n:=by omega
   have hlt:k < n:=by omega
   have h3:decide (k=n)=false:=decide_eq_false g2
   have HR2:=zzA (show hb t k 4=(word za != word zb) from by rw [HHB.out,h1,h3];simp)
   clear g1 g2 h3
   go_enter Tryz.func95,Tryz.ntmps95
   go_wp2_with (first | (go_at_call 91;refine (HF.out _).mono ?_;rintro e w1 ⟨rfl,hb2⟩;rw [h1];have hy0:w1.cell? ⟨w.heap.size,0,none⟩=some (.slice (some ⟨b,off,none⟩) n c):=(H0.out w1 hb2).1;have hy1:w1.cell? ⟨w.heap.size,1,none⟩=some (.int .i64 (k:Int)):=(H0.out w1 hb2).2;have hy2:w1.cell? ⟨b,off+(k - 1),none⟩=some (.int .i64 za):=(by rw [HZA.out];exact HT.out w1 b off rfl hb2 (k - 1) (by omega))) | (go_at_call 92;refine (HLA.out _).mono ?_;rintro e w2 ⟨rfl,hb3⟩;rw [h2];have hq2:=hb2.trans (hb3.mono hb2.size);have hz0:w2.cell? ⟨w.heap.size,0,none⟩=some (.slice (some ⟨b,off,none⟩) n c):=(H0.out w2 hq2).1;have hz1:w2.cell? ⟨w.heap.size,1,none⟩=some (.int .i64 (k:Int)):=(H0.out w2 hq2).2;have hz2:w2.cell? ⟨b,off+k,none⟩=some (.int .i64 zb):=(by rw [HZB.out];exact HT.out w2 b off rfl hq2 k (by omega))) | (go_at_call 106;refine (word_any _ _).mono ?_;rintro e w' ⟨rfl,rfl⟩))
   go_ret
   exact ⟨ret_bool (by first | exact HR2.out.symm | (rw [HR2.out];simp;done)),HB1.out.trans ((hb2.trans (hb3.mono hb2.size)).mono (zzo HSZ.out))⟩
theorem noEdge_any (hr:Reads w w.heap.size 1 A n c (t.map (Value.int .i64))) (hk:k≤n):Calls Tryz.prog 96 #[.agg #[.slice A n c,.int .i64 (k:Int)]] w fun e w'=>e=.returned (.bool (hb t k 5))∧Below w.heap.size w w':=by
 have hb1:Below w.heap.size w (w.alloc (.cells #[.slice A n c,.int .i64 (k:Int)] 129)):=(zzb _ _).alloc (zzF _) _
 have HE:=zzA (edge_any A n c k t _ ((hr.below hb1).more hb1.size) hk)
 have hs:=hb1.size
 have HH:=zzA (show hb t k 5=!(hb t k 4) from rfl)
 clear hr
 go_enter Tryz.func96,Tryz.ntmps96
 go_wp2_with fail
 refine HE.out.mono ?_
 rintro e w1 ⟨rfl,hb2⟩
 go_wp2_with fail
 go_ret
 exact ⟨ret_bool HH.out.symm,hb1.trans (hb2.mono hs)⟩
end
def rowsV:List Value:=[.int .i64 1,.int .i64 2,.func (.func 91) #[] #[],.int .i64 2,.int .i64 1,.func (.func 92) #[] #[],.int .i64 4,.int .i64 8,.func (.func 93) #[] #[],
 .int .i64 8,.int .i64 4,.func (.func 94) #[] #[],.int .i64 16,.int .i64 16,.func (.func 95) #[] #[],.int .i64 32,.int .i64 32,.func (.func 96) #[] #[]]
theorem rows_any (w:World):Calls Tryz.prog 63 #[] w fun e w'=>e=.returned (.slice (some ⟨w.heap.size,0,none⟩) 6 6)∧Blk w' w.heap.size 127 rowsV∧Below w.heap.size w w':=by
 go_enter Tryz.func63,Tryz.ntmps63
 go_wp2_with fail
 go_ret
 exact ⟨rfl,zyI w _ rowsV,(zzb _ _).alloc (zzF _) _⟩
theorem sumB_step {t:List Int} {k j:Nat}:((sumB (hb t k) (j+1):Nat):Int)=if hb t k j then ((sumB (hb t k) j+2 ^ j:Nat):Int) else ((sumB (hb t k) j:Nat):Int):=by
 rw [sumB];split <;> simp
theorem at_any (A:Option Addr) (n c k:Nat) (t:List Int) (w:World) (hr:Reads w w.heap.size 1 A n c (t.map (Value.int .i64))) (hk:k≤n) :
  Calls Tryz.prog 39 #[.slice A n c,.int .i64 (k:Int)] w fun e w'=>e=.returned (.int .i64 (atBits t k))∧Below w.heap.size w w':=by
 have hl:t.length=n:=by have:=hr.len;simpa using this
 have HL:=zzA hl
 have HR:=zzA hr
 have hcap:=hr.cap
 have hnc:=hr.le
 have HAT:=zzA (show atBits t k=((sumB (hb t k) 6:Nat):Int) from rfl)
 clear hl hr
 go_enter Tryz.func39,Tryz.ntmps39
 go_wp2_with fail
 refine (rows_any w).mono ?_
 rintro e w1 ⟨rfl,hbk,hb1⟩
 have HBK:=zzA hbk
 have hR1:=hbk.lt
 clear hbk
 go_wp2_with fail
 go_loopw [5,18] (fun b p wr=>∃ j:Nat,j≤6∧p=.int .i64 j∧b=.int .i64 ((sumB (hb t k) j:Nat):Int)∧Below w1.heap.size w1 wr) (fun _ p _=>6 - (intOf p).toNat)
 case atStart=>exact ⟨0,by omega,rfl,rfl,zzb _ _⟩
 case round =>
  obtain ⟨j,hj6,rfl,rfl,hbel⟩:=hrel
  have hszr:=hbel.size
  have hbw:Below w.heap.size w wr:=hb1.trans (hbel.mono hb1.size)
  have hblk:=HBK.out.below hbel hR1
  have hrd:=(HR.out.below hbw).more hbw.size
  by_cases hlt:j < 6
  ·have hst:=sumB_step (t:=t) (k:=k) (j:=j)
   have HB:=zzA hblk
   have HD:=zzA hrd
   have HST:=zzA hst
   have HBEL:=zzA hbel
   clear hblk hrd hst
   rcases (show j=0∨j=1∨j=2∨j=3∨j=4∨j=5 from by omega) with rfl | rfl | rfl | rfl | rfl | rfl
   ·have c0:=HB.out.cell 0
    have c1:=HB.out.cell 1
    have c2:=HB.out.cell 2
    simp only [rowsV,zzR,zzX] at c0 c1 c2
    have HC:=zzA (show ∀ u:World,Reads u u.heap.size 1 A n c (t.map (Value.int .i64))→Calls Tryz.prog 91 #[.agg #[.slice A n c,.int .i64 (k:Int)]] u fun e w'=>e=.returned (.bool (hb t k 0))∧Below u.heap.size u w' from fun u h=>(first_any _ n c k u))
    have hal:Below wr.heap.size wr (wr.alloc (.cells #[.int .i64 1,.int .i64 2,.func (.func 91) #[] #[]] 127)):=(zzb _ _).alloc (zzF _) _
    have hbx:(wr.alloc (.cells #[.int .i64 1,.int .i64 2,.func (.func 91) #[] #[]] 127)).cell? ⟨wr.heap.size,0,none⟩=some (.int .i64 1):=(zyI wr _ [.int .i64 1,.int .i64 2,.func (.func 91) #[] #[]]).cell 0
    have HBX:=zzA hbx
    have HAL:=zzA hal
    have HRA:=zzA ((HD.out.below hal).more hal.size)
    have hsl:wr.heap.size < (wr.alloc (.cells #[.int .i64 1,.int .i64 2,.func (.func 91) #[] #[]] 127)).heap.size:=by simp
    have HSL:=zzA hsl
    clear hbx hal hsl
    have horj:bits .or .i64 ((sumB (hb t k) 0:Nat):Int) 1=((sumB (hb t k) 0:Nat):Int)+1:=by have:=or_low 0 (by omega) (sumB (hb t k) 0) (sumB_lt _ _);simpa using this
    cases hv:hb t k 0
    all_goals
     go_wp2_with (go_at_call 91;refine (HC.out _ HRA.out).mono ?_;rintro e w2 ⟨rfl,hb2⟩;rw [hv];have hx:w2.cell? ⟨wr.heap.size,0,none⟩=some (.int .i64 1):=(hb2.cell (p:=⟨wr.heap.size,0,none⟩) HSL.out).trans HBX.out)
     have hbe:=HBEL.out.trans ((HAL.out.trans (hb2.mono (zzo HSL.out))).mono hszr)
     exact ⟨⟨1,by omega,by go_num,by rw [HST.out,hv];(first | rfl | (simp;done) | (simp [horj];done)),hbe⟩,by simp [intOf]⟩
   ·have c0:=HB.out.cell 3
    have c1:=HB.out.cell 4
    have c2:=HB.out.cell 5
    simp only [rowsV,zzR,zzX] at c0 c1 c2
    have HC:=zzA (show ∀ u:World,Reads u u.heap.size 1 A n c (t.map (Value.int .i64))→Calls Tryz.prog 92 #[.agg #[.slice A n c,.int .i64 (k:Int)]] u fun e w'=>e=.returned (.bool (hb t k 1))∧Below u.heap.size u w' from fun u h=>(last_any _ n c k t u HL.out))
    have hal:Below wr.heap.size wr (wr.alloc (.cells #[.int .i64 2,.int .i64 1,.func (.func 92) #[] #[]] 127)):=(zzb _ _).alloc (zzF _) _
    have hbx:(wr.alloc (.cells #[.int .i64 2,.int .i64 1,.func (.func 92) #[] #[]] 127)).cell? ⟨wr.heap.size,0,none⟩=some (.int .i64 2):=(zyI wr _ [.int .i64 2,.int .i64 1,.func (.func 92) #[] #[]]).cell 0
    have HBX:=zzA hbx
    have HAL:=zzA hal
    have HRA:=zzA ((HD.out.below hal).more hal.size)
    have hsl:wr.heap.size < (wr.alloc (.cells #[.int .i64 2,.int .i64 1,.func (.func 92) #[] #[]] 127)).heap.size:=by simp
    have HSL:=zzA hsl
    clear hbx hal hsl
    have horj:bits .or .i64 ((sumB (hb t k) 1:Nat):Int) 2=((sumB (hb t k) 1:Nat):Int)+2:=by have:=or_low 1 (by omega) (sumB (hb t k) 1) (sumB_lt _ _);simpa using this
    cases hv:hb t k 1
    all_goals
     go_wp2_with (go_at_call 92;refine (HC.out _ HRA.out).mono ?_;rintro e w2 ⟨rfl,hb2⟩;rw [hv];have hx:w2.cell? ⟨wr.heap.size,0,none⟩=some (.int .i64 2):=(hb2.cell (p:=⟨wr.heap.size,0,none⟩) HSL.out).trans HBX.out)
     have hbe:=HBEL.out.trans ((HAL.out.trans (hb2.mono (zzo HSL.out))).mono hszr)
     exact ⟨⟨2,by omega,by go_num,by rw [HST.out,hv];(first | rfl | (simp;done) | (simp [horj];done)),hbe⟩,by simp [intOf]⟩
   ·have c0:=HB.out.cell 6
    have c1:=HB.out.cell 7
    have c2:=HB.out.cell 8
    simp only [rowsV,zzR,zzX] at c0 c1 c2
    have HC:=zzA (show ∀ u:World,Reads u u.heap.size 1 A n c (t.map (Value.int .i64))→Calls Tryz.prog 93 #[.agg #[.slice A n c,.int .i64 (k:Int)]] u fun e w'=>e=.returned (.bool (hb t k 2))∧Below u.heap.size u w' from fun u h=>(begin_any _ n c k t u h hk))
    have hal:Below wr.heap.size wr (wr.alloc (.cells #[.int .i64 4,.int .i64 8,.func (.func 93) #[] #[]] 127)):=(zzb _ _).alloc (zzF _) _
    have hbx:(wr.alloc (.cells #[.int .i64 4,.int .i64 8,.func (.func 93) #[] #[]] 127)).cell? ⟨wr.heap.size,0,none⟩=some (.int .i64 4):=(zyI wr _ [.int .i64 4,.int .i64 8,.func (.func 93) #[] #[]]).cell 0
    have HBX:=zzA hbx
    have HAL:=zzA hal
    have HRA:=zzA ((HD.out.below hal).more hal.size)
    have hsl:wr.heap.size < (wr.alloc (.cells #[.int .i64 4,.int .i64 8,.func (.func 93) #[] #[]] 127)).heap.size:=by simp
    have HSL:=zzA hsl
    clear hbx hal hsl
    have horj:bits .or .i64 ((sumB (hb t k) 2:Nat):Int) 4=((sumB (hb t k) 2:Nat):Int)+4:=by have:=or_low 2 (by omega) (sumB (hb t k) 2) (sumB_lt _ _);simpa using this
    cases hv:hb t k 2
    all_goals
     go_wp2_with (go_at_call 93;refine (HC.out _ HRA.out).mono ?_;rintro e w2 ⟨rfl,hb2⟩;rw [hv];have hx:w2.cell? ⟨wr.heap.size,0,none⟩=some (.int .i64 4):=(hb2.cell (p:=⟨wr.heap.size,0,none⟩) HSL.out).trans HBX.out)
     have hbe:=HBEL.out.trans ((HAL.out.trans (hb2.mono (zzo HSL.out))).mono hszr)
     exact ⟨⟨3,by omega,by go_num,by rw [HST.out,hv];(first | rfl | (simp;done) | (simp [horj];done)),hbe⟩,by simp [intOf]⟩
   ·have c0:=HB.out.cell 9
    have c1:=HB.out.cell 10
    have c2:=HB.out.cell 11
    simp only [rowsV,zzR,zzX] at c0 c1 c2
    have HC:=zzA (show ∀ u:World,Reads u u.heap.size 1 A n c (t.map (Value.int .i64))→Calls Tryz.prog 94 #[.agg #[.slice A n c,.int .i64 (k:Int)]] u fun e w'=>e=.returned (.bool (hb t k 3))∧Below u.heap.size u w' from fun u h=>(end_any _ n c k t u h hk))
    have hal:Below wr.heap.size wr (wr.alloc (.cells #[.int .i64 8,.int .i64 4,.func (.func 94) #[] #[]] 127)):=(zzb _ _).alloc (zzF _) _
    have hbx:(wr.alloc (.cells #[.int .i64 8,.int .i64 4,.func (.func 94) #[] #[]] 127)).cell? ⟨wr.heap.size,0,none⟩=some (.int .i64 8):=(zyI wr _ [.int .i64 8,.int .i64 4,.func (.func 94) #[] #[]]).cell 0
    have HBX:=zzA hbx
    have HAL:=zzA hal
    have HRA:=zzA ((HD.out.below hal).more hal.size)
    have hsl:wr.heap.size < (wr.alloc (.cells #[.int .i64 8,.int .i64 4,.func (.func 94) #[] #[]] 127)).heap.size:=by simp
    have HSL:=zzA hsl
    clear hbx hal hsl
    have horj:bits .or .i64 ((sumB (hb t k) 3:Nat):Int) 8=((sumB (hb t k) 3:Nat):Int)+8:=by have:=or_low 3 (by omega) (sumB (hb t k) 3) (sumB_lt _ _);simpa using this
    cases hv:hb t k 3
    all_goals
     go_wp2_with (go_at_call 94;refine (HC.out _ HRA.out).mono ?_;rintro e w2 ⟨rfl,hb2⟩;rw [hv];have hx:w2.cell? ⟨wr.heap.size,0,none⟩=some (.int .i64 8):=(hb2.cell (p:=⟨wr.heap.size,0,none⟩) HSL.out).trans HBX.out)
     have hbe:=HBEL.out.trans ((HAL.out.trans (hb2.mono (zzo HSL.out))).mono hszr)
     exact ⟨⟨4,by omega,by go_num,by rw [HST.out,hv];(first | rfl | (simp;done) | (simp [horj];done)),hbe⟩,by simp [intOf]⟩
   ·have c0:=HB.out.cell 12
    have c1:=HB.out.cell 13
    have c2:=HB.out.cell 14
    simp only [rowsV,zzR,zzX] at c0 c1 c2
    have HC:=zzA (show ∀ u:World,Reads u u.heap.size 1 A n c (t.map (Value.int .i64))→Calls Tryz.prog 95 #[.agg #[.slice A n c,.int .i64 (k:Int)]] u fun e w'=>e=.returned (.bool (hb t k 4))∧Below u.heap.size u w' from fun u h=>(edge_any _ n c k t u h hk))
    have hal:Below wr.heap.size wr (wr.alloc (.cells #[.int .i64 16,.int .i64 16,.func (.func 95) #[] #[]] 127)):=(zzb _ _).alloc (zzF _) _
    have hbx:(wr.alloc (.cells #[.int .i64 16,.int .i64 16,.func (.func 95) #[] #[]] 127)).cell? ⟨wr.heap.size,0,none⟩=some (.int .i64 16):=(zyI wr _ [.int .i64 16,.int .i64 16,.func (.func 95) #[] #[]]).cell 0
    have HBX:=zzA hbx
    have HAL:=zzA hal
    have HRA:=zzA ((HD.out.below hal).more hal.size)
    have hsl:wr.heap.size < (wr.alloc (.cells #[.int .i64 16,.int .i64 16,.func (.func 95) #[] #[]] 127)).heap.size:=by simp
    have HSL:=zzA hsl
    clear hbx hal hsl
    have horj:bits .or .i64 ((sumB (hb t k) 4:Nat):Int) 16=((sumB (hb t k) 4:Nat):Int)+16:=by have:=or_low 4 (by omega) (sumB (hb t k) 4) (sumB_lt _ _);simpa using this
    cases hv:hb t k 4
    all_goals
     go_wp2_with (go_at_call 95;refine (HC.out _ HRA.out).mono ?_;rintro e w2 ⟨rfl,hb2⟩;rw [hv];have hx:w2.cell? ⟨wr.heap.size,0,none⟩=some (.int .i64 16):=(hb2.cell (p:=⟨wr.heap.size,0,none⟩) HSL.out).trans HBX.out)
     have hbe:=HBEL.out.trans ((HAL.out.trans (hb2.mono (zzo HSL.out))).mono hszr)
     exact ⟨⟨5,by omega,by go_num,by rw [HST.out,hv];(first | rfl | (simp;done) | (simp [horj];done)),hbe⟩,by simp [intOf]⟩
   ·have c0:=HB.out.cell 15
    have c1:=HB.out.cell 16
    have c2:=HB.out.cell 17
    simp only [rowsV,zzR,zzX] at c0 c1 c2
    have HC:=zzA (show ∀ u:World,Reads u u.heap.size 1 A n c (t.map (Value.int .i64))→Calls Tryz.prog 96 #[.agg #[.slice A n c,.int .i64 (k:Int)]] u fun e w'=>e=.returned (.bool (hb t k 5))∧Below u.heap.size u w' from fun u h=>(noEdge_any _ n c k t u h hk))
    have hal:Below wr.heap.size wr (wr.alloc (.cells #[.int .i64 32,.int .i64 32,.func (.func 96) #[] #[]] 127)):=(zzb _ _).alloc (zzF _) _
    have hbx:(wr.alloc (.cells #[.int .i64 32,.int .i64 32,.func (.func 96) #[] #[]] 127)).cell? ⟨wr.heap.size,0,none⟩=some (.int .i64 32):=(zyI wr _ [.int .i64 32,.int .i64 32,.func (.func 96) #[] #[]]).cell 0
    have HBX:=zzA hbx
    have HAL:=zzA hal
    have HRA:=zzA ((HD.out.below hal).more hal.size)
    have hsl:wr.heap.size < (wr.alloc (.cells #[.int .i64 32,.int .i64 32,.func (.func 96) #[] #[]] 127)).heap.size:=by simp
    have HSL:=zzA hsl
    clear hbx hal hsl
    have horj:bits .or .i64 ((sumB (hb t k) 5:Nat):Int) 32=((sumB (hb t k) 5:Nat):Int)+32:=by have:=or_low 5 (by omega) (sumB (hb t k) 5) (sumB_lt _ _);simpa using this
    cases hv:hb t k 5
    all_goals
     go_wp2_with (go_at_call 96;refine (HC.out _ HRA.out).mono ?_;rintro e w2 ⟨rfl,hb2⟩;rw [hv];have hx:w2.cell? ⟨wr.heap.size,0,none⟩=some (.int .i64 32):=(hb2.cell (p:=⟨wr.heap.size,0,none⟩) HSL.out).trans HBX.out)
     have hbe:=HBEL.out.trans ((HAL.out.trans (hb2.mono (zzo HSL.out))).mono hszr)
     exact ⟨⟨6,by omega,by go_num,by rw [HST.out,hv];(first | rfl | (simp;done) | (simp [horj];done)),hbe⟩,by simp [intOf]⟩
  ·obtain rfl:j=6:=by omega
   go_wp2_with fail
   go_ret
   exact ⟨ret_int HAT.out.symm,hbw⟩
end Go.Proofs.YtgkclnmmjedmkaaGreat
namespace Go.Proofs.YtgkclnmmjedmkaaGreat.Tr
open Go.Proofs.YtgkclnmmjedmkaaGreat.Mach
mutual
def lenS:Tr→Nat
 | .mk k _ _ l n m _ _ _ =>
  if k=2∨k=3 then 1
  else if k=7 then lensS l+2
  else if k=5 then lensS l+2*(l.length - 1)
  else if k=6 then lensS l+(if n=1 then 1 else if m < 0 then 2 else 1)
  else lensS l
def lensS:List Tr→Nat
 | []=>0
 | t :: l=>lenS t+lensS l
end
def altI (z:Bool) (x y:Nat):Ins:=if z then ⟨2,y,x,0,[]⟩ else ⟨2,x,y,0,[]⟩
mutual
def codeS:Tr→Nat→List Ins
 | .mk k r a l n m z i _,b =>
  if k=2 then (if r=[] then [⟨6,0,0,0,[]⟩] else [⟨1,(b+1:Nat),0,0,r⟩])
  else if k=3 then [⟨4,(b+1:Nat),0,a,[]⟩]
  else if k=7 then ⟨3,(b+1:Nat),0,2*i,[]⟩ :: (codesS l (b+1)++[⟨3,(b+1+lensS l+1:Nat),0,2*i+1,[]⟩])
  else if k=5 then altS l b (b+(lensS l+2*(l.length - 1)))
  else if k=6 then
   (if n=1 then codesS l b++[altI z b (b+lensS l+1)]
    else if m < 0 then altI z (b+1) (b+1+lensS l+1) :: (codesS l (b+1)++[⟨7,(b:Nat),0,0,[]⟩])
    else altI z (b+1) (b+1+lensS l) :: codesS l (b+1))
  else codesS l b
def codesS:List Tr→Nat→List Ins
 | [],_=>[]
 | t :: l,b=>codeS t b++codesS l (b+lenS t)
def altS:List Tr→Nat→Nat→List Ins
 | [],_,_=>[]
 | t :: l,b,e=>if l.isEmpty then codeS t b else ⟨2,(b+1:Nat),(b+1+lenS t+1:Nat),0,[]⟩ :: (codeS t (b+1)++⟨7,(e:Nat),0,0,[]⟩ :: altS l (b+1+lenS t+1) e)
end
def progL (s:Tr):List Ins:=⟨3,(1:Nat),0,0,[]⟩ :: (codeS s 1++[⟨3,(lenS s+2:Nat),0,1,[]⟩,⟨5,0,0,0,[]⟩])
theorem codes_length (l:List Tr) (ih:∀ s∈l,∀ b,(codeS s b).length=lenS s):∀ b,(codesS l b).length=lensS l:=by
 induction l with
 | nil=>intro b;rfl
 | cons t l ihl =>
  intro b
  rw [codesS,lensS,zzG,ih t zzH,ihl fun s hs=>ih s (zzI _ hs)]
theorem alt_length (l:List Tr) (ih:∀ s∈l,∀ b,(codeS s b).length=lenS s):∀ b e,(altS l b e).length=lensS l+2*(l.length - 1):=by
 induction l with
 | nil=>intro b e;rfl
 | cons t l ihl =>
  intro b e
  have h:=ihl fun s hs=>ih s (zzI _ hs)
  rw [altS,lensS,zzO]
  cases l with
  | nil=>simp [ih t zzH,lensS]
  | cons u l =>
   rw [if_neg (by simp),zzO,zzG,zzO,ih t zzH,h]
   simp only [zzO]
   omega
theorem code_length:∀ (t:Tr) (b:Nat),(codeS t b).length=lenS t:=by
 intro t
 induction t using Tr.ind with
 | h t ih =>
  intro b
  cases t with
  | mk k r a l n m z i s =>
   have h1:=codes_length l ih
   have h2:=alt_length l ih
   rw [codeS,lenS]
   by_cases k2:k=2
   ·rw [if_pos k2,if_pos (show k=2∨k=3 from .inl k2)];split <;> rfl
   by_cases k3:k=3
   ·rw [if_neg k2,if_pos k3,if_pos (show k=2∨k=3 from .inr k3)];rfl
   rw [if_neg k2,if_neg k3,if_neg (show ¬(k=2∨k=3) from fun h=>h.elim k2 k3)]
   by_cases k7:k=7
   ·rw [if_pos k7,if_pos k7,zzO,zzG,h1];simp
   rw [if_neg k7,if_neg k7]
   by_cases k5:k=5
   ·rw [if_pos k5,if_pos k5,h2]
   rw [if_neg k5,if_neg k5]
   by_cases k6:k=6
   ·rw [if_pos k6,if_pos k6]
    by_cases hn:n=1
    ·rw [if_pos hn,if_pos hn,zzG,h1];simp
    rw [if_neg hn,if_neg hn]
    by_cases hm:m < 0
    ·rw [if_pos hm,if_pos hm,zzO,zzG,h1];simp
    ·rw [if_neg hm,if_neg hm,zzO,h1]
   ·rw [if_neg k6,if_neg k6]
    exact h1 b
theorem lens_le (l:List Tr) (ih:∀ s∈l,lenS s+2≤3*size s):lensS l+2*l.length≤3*sizes l:=by
 induction l with
 | nil=>simp [lensS,sizes]
 | cons t l ihl =>
  have h1:=ih t zzH
  have h2:=ihl fun s hs=>ih s (zzI _ hs)
  rw [lensS,sizes,zzO]
  omega
theorem len_le:∀ t:Tr,allB t=true→lenS t+2≤3*size t:=by
 intro t
 induction t using Tr.ind with
 | h t ih =>
  intro h
  cases kinds h with
  | empty=>decide
  | cls r hr=>rw [lenS,if_pos (show (2:Int)=2∨(2:Int)=3 from .inl rfl),size,sizes];omega
  | ass a ha=>rw [lenS,if_pos (show (3:Int)=2∨(3:Int)=3 from .inr rfl),size,sizes];omega
  | cat l h2 hs =>
   have h1:=lens_le l fun s hs'=>ih s hs' (hs s hs')
   rw [catT,lenS,size,if_neg (by decide),if_neg (by decide),if_neg (by decide),if_neg (by decide)]
   omega
  | alt l h2 hs =>
   have h1:=lens_le l fun s hs'=>ih s hs' (hs s hs')
   rw [altT,lenS,size,if_neg (by decide),if_neg (by decide),if_pos rfl]
   omega
  | rep x n m z hx h0 h1 hm =>
   have h1:=lens_le [x] fun s hs'=>ih s hs' (by rw [zzE] at hs';rw [hs'];exact hx)
   rw [List.length_singleton] at h1
   rw [repT,lenS,size,if_neg (by decide),if_neg (by decide),if_neg (by decide),if_pos rfl]
   split
   ·omega
   ·split <;> omega
  | group x i s hx h0 h1 hm =>
   have h1:=lens_le [x] fun s hs'=>ih s hs' (by rw [zzE] at hs';rw [hs'];exact hx)
   rw [List.length_singleton] at h1
   rw [groupT,lenS,size,if_neg (by decide),if_pos rfl]
   omega
theorem prog_length (s:Tr):(progL s).length=lenS s+3:=by
 unfold progL
 rw [zzO,zzG,code_length];simp
mutual
def greatest:Tr→Int
 | .mk _ _ _ l _ _ _ i _=>greatests l i
def greatests:List Tr→Int→Int
 | [],g=>g
 | t :: l,g=>greatests l (max g (greatest t))
end
theorem greatests_ge:∀ (l:List Tr) (g:Int),g≤greatests l g∧∀ t∈l,greatest t≤greatests l g
 | [],g=>⟨Int.le_refl _,by simp⟩
 | t :: l,g=>by
  obtain ⟨h1,h2⟩:=greatests_ge l (max g (greatest t))
  rw [greatests]
  refine ⟨by omega,fun u hu=>?_⟩
  rcases zzN.1 hu with rfl | hu
  ·omega
  ·exact h2 u hu
theorem greatests_le:∀ (l:List Tr) (g c:Int),g≤c→(∀ t∈l,greatest t≤c)→greatests l g≤c
 | [],g,c,h,_=>h
 | t :: l,g,c,h,hl=>by
  rw [greatests]
  exact greatests_le l _ c (by have:=hl t zzH;omega) fun u hu=>hl u (zzI _ hu)
theorem occs_mem {l:List Tr} {u:Lab} (h:u∈occs l):∃ t∈l,u∈occ t:=by
 induction l with
 | nil=>cases h
 | cons t l ih =>
  rw [occs] at h
  rcases zzM.1 h with h | h
  ·exact ⟨t,zzH,h⟩
  ·obtain ⟨x,hx,h⟩:=ih h
   exact ⟨x,zzI _ hx,h⟩
theorem mem_occs {l:List Tr} {t:Tr} {u:Lab} (ht:t∈l) (h:u∈occ t):u∈occs l:=by
 induction l with
 | nil=>cases ht
 | cons x l ih =>
  rw [occs]
  rcases zzN.1 ht with rfl | ht
  ·exact zzW _ h
  ·exact zzV _ (ih ht)
theorem occ_great:∀ (t:Tr) (u:Lab),u∈occ t→u.1≤greatest t:=by
 intro t
 induction t using Tr.ind with
 | h t ih =>
  intro u hu
  cases t with
  | mk k r a l n m z i s =>
   rw [occ] at hu
   rw [greatest]
   obtain ⟨h1,h2⟩:=greatests_ge l i
   split at hu
   ·cases hu
   ·rcases zzM.1 hu with hu | hu
    ·split at hu
     ·rw [zzE] at hu
      rw [hu];exact h1
     ·cases hu
    ·obtain ⟨x,hx,hu⟩:=occs_mem hu
     exact Int.le_trans (ih x hx u hu) (h2 x hx)
theorem sound_great:∀ t:Tr,allB t=true→0≤greatest t∧greatest t≤500∧∀ u∈occ t,1≤u.1:=by
 intro t
 induction t using Tr.ind with
 | h t ih =>
  intro h
  have hl:∀ (l:List Tr) (g:Int),0≤g→g≤500→(∀ s∈l,allB s=true)→(∀ s∈l,allB s=true→0≤greatest s∧greatest s≤500∧∀ u∈occ s,1≤u.1)→0≤greatests l g∧greatests l g≤500∧∀ u∈occs l,1≤u.1:=by
   intro l g h0 h1 hs ih
   refine ⟨Int.le_trans h0 (greatests_ge l g).1,greatests_le l g 500 h1 fun t ht=>(ih t ht (hs t ht)).2.1,fun u hu=>?_⟩
   obtain ⟨x,hx,hu⟩:=occs_mem hu
   exact (ih x hx (hs x hx)).2.2 u hu
  cases kinds h with
  | empty=>exact ⟨by decide,by decide,by intro u hu;cases hu⟩
  | cls r hr=>exact ⟨Int.le_refl 0,show (0:Int)≤500 by decide,by intro u hu;cases hu⟩
  | ass a ha=>exact ⟨Int.le_refl 0,show (0:Int)≤500 by decide,by intro u hu;cases hu⟩
  | cat l h2 hs=>rw [occ_cat];exact hl l 0 (by decide) (by decide) hs ih
  | alt l h2 hs=>rw [occ_alt];exact hl l 0 (by decide) (by decide) hs ih
  | rep x n m z hx h0 h1 hm =>
   have:=hl [x] 0 (by decide) (by decide) (by intro s hs;rw [zzE] at hs;rw [hs];exact hx) ih
   refine ⟨this.1,this.2.1,fun u hu=>?_⟩
   rw [repT,occ] at hu
   split at hu
   ·cases hu
   ·rw [if_neg (by decide),zzn] at hu
    exact this.2.2 u hu
  | group x i s hx h0 h1 hm =>
   have:=hl [x] i (by omega) h1 (by intro s hs;rw [zzE] at hs;rw [hs];exact hx) ih
   refine ⟨this.1,this.2.1,fun u hu=>?_⟩
   rw [groupT,occ,if_neg (by rintro ⟨h,_⟩;cases h),if_pos rfl] at hu
   rcases zzM.1 hu with hu | hu
   ·rw [zzE] at hu
    rw [hu];exact h0
   ·exact this.2.2 u hu
theorem may_altI {z:Bool} {x y N:Nat} {caps:Int} (hx:x < N) (hy:y < N):mayB (altI z x y) N caps=true:=by
 unfold altI mayB
 cases z <;> simp <;> omega
theorem code_may {caps:Int}:∀ (t:Tr),Good t→(∀ u∈occ t,0≤u.1∧2*u.1+1 < caps)→∀ (b N:Nat),b+lenS t < N→∀ x∈codeS t b,mayB x N caps=true:=by
 intro t
 induction t using Tr.ind with
 | h t ih =>
  intro hg ho b N hN x hx
  have hs2:=((simpB_iff t 0).1 hg.2).2.2
  have hcodes:∀ (l:List Tr),(∀ s∈l,Good s)→(∀ s∈l,∀ u∈occ s,0≤u.1∧2*u.1+1 < caps)→(∀ s∈l,Good s→(∀ u∈occ s,0≤u.1∧2*u.1+1 < caps)→∀ (b N:Nat),b+lenS s < N→∀ x∈codeS s b,mayB x N caps=true)→∀ b:Nat,b+lensS l < N→∀ x∈codesS l b,mayB x N caps=true:=by
   intro l
   induction l with
   | nil=>intro _ _ _ b _ x hx;cases hx
   | cons t l ihl =>
    intro h1 h2 h3 b hb x hx
    rw [lensS] at hb
    rw [codesS] at hx
    rcases zzM.1 hx with hx | hx
    ·exact h3 t zzH (h1 t zzH) (h2 t zzH) b N (by omega) x hx
    ·exact ihl (fun s hs=>h1 s (zzI _ hs)) (fun s hs=>h2 s (zzI _ hs)) (fun s hs=>h3 s (zzI _ hs)) (b+lenS t) (by omega) x hx
  have halts:∀ (l:List Tr),(∀ s∈l,Good s)→(∀ s∈l,∀ u∈occ s,0≤u.1∧2*u.1+1 < caps)→(∀ s∈l,Good s→(∀ u∈occ s,0≤u.1∧2*u.1+1 < caps)→∀ (b N:Nat),b+lenS s < N→∀ x∈codeS s b,mayB x N caps=true)→∀ b e:Nat,b+(lensS l+2*(l.length - 1)) < N→e < N→∀ x∈altS l b e,mayB x N caps=true:=by
   intro l
   induction l with
   | nil=>intro _ _ _ b e _ _ x hx;cases hx
   | cons t l ihl =>
    intro h1 h2 h3 b e hb he x hx
    rw [lensS,zzO] at hb
    rw [altS] at hx
    cases l with
    | nil =>
     rw [if_pos (show ([]:List Tr).isEmpty=true from rfl)] at hx
     exact h3 t zzH (h1 t zzH) (h2 t zzH) b N (by omega) x hx
    | cons u l =>
     simp only [zzO] at hb
     rw [if_neg (by simp)] at hx
     rcases zzN.1 hx with rfl | hx
     ·unfold mayB;simp;omega
     ·rcases zzM.1 hx with hx | hx
      ·exact h3 t zzH (h1 t zzH) (h2 t zzH) (b+1) N (by omega) x hx
      ·rcases zzN.1 hx with rfl | hx
       ·unfold mayB;simp;omega
       ·exact ihl (fun s hs=>h1 s (zzI _ hs)) (fun s hs=>h2 s (zzI _ hs)) (fun s hs=>h3 s (zzI _ hs)) _ e (by simp only [zzO];omega) he x hx
  have hgood:∀ (l:List Tr) (k:Int),(∀ s∈l,allB s=true)→(∀ s∈l,simpB s k=true)→∀ s∈l,Good s:=fun l k h1 h2 s hs=>⟨h1 s hs,simpB_above (h2 s hs) (badIn_far (by decide) (by decide))⟩
  cases kinds hg.1 with
  | empty =>
   rw [emptyT,codeS,if_neg (by decide),if_neg (by decide),if_neg (by decide),if_neg (by decide),if_neg (by decide)] at hx
   cases hx
  | cls r hr =>
   rw [lenS,if_pos (.inl rfl)] at hN
   rw [codeS,if_pos rfl] at hx
   split at hx
   ·rw [zzE] at hx;subst hx;unfold mayB;simp
   ·rename_i hr0
    rw [zzE] at hx;subst hx;unfold mayB
    rw [if_pos rfl,zzc,zzg]
    exact ⟨⟨by simp only [];omega,by simp only [];omega,rfl,rfl,hr0⟩,hr⟩
  | ass a ha =>
   rw [lenS,if_pos (.inr rfl)] at hN
   rw [codeS,if_neg (by decide),if_pos rfl,zzE] at hx
   subst hx
   unfold mayB
   rw [if_neg (by simp),if_neg (by simp),if_neg (by simp),if_pos rfl,zzc,zzg]
   exact ⟨⟨by simp only [];omega,by simp only [];omega,rfl,rfl⟩,ha⟩
  | cat l h2 hs =>
   rw [catT,lenS,if_neg (by decide),if_neg (by decide),if_neg (by decide),if_neg (by decide)] at hN
   rw [catT,codeS,if_neg (by decide),if_neg (by decide),if_neg (by decide),if_neg (by decide),if_neg (by decide)] at hx
   rw [occ_cat] at ho
   exact hcodes l (hgood l 4 hs hs2) (fun s hs' u hu=>ho u (mem_occs hs' hu)) ih b (by omega) x hx
  | alt l h2 hs =>
   rw [altT,lenS,if_neg (by decide),if_neg (by decide),if_pos rfl] at hN
   rw [altT,codeS,if_neg (by decide),if_neg (by decide),if_neg (by decide),if_pos rfl] at hx
   rw [occ_alt] at ho
   exact halts l (hgood l 5 hs hs2) (fun s hs' u hu=>ho u (mem_occs hs' hu)) ih b _ (by omega) (by omega) x hx
  | rep y n m z hy h0 h1 hm =>
   have hb:=((simpB_iff _ 0).1 hg.2).1
   rw [repT,badRep,decide_eq_false_iff_not] at hb
   rw [occ_rep y (by omega)] at ho
   have hgl:=hgood [y] 6 (by intro s hs;rw [zzE] at hs;rw [hs];exact hy) hs2
   have hol:∀ s∈[y],∀ u∈occ s,0≤u.1∧2*u.1+1 < caps:=by intro s hs;rw [zzE] at hs;rw [hs];exact ho
   rw [repT,lenS,if_neg (by decide),if_neg (by decide),if_neg (by decide),if_pos rfl] at hN
   rw [repT,codeS,if_neg (by decide),if_neg (by decide),if_neg (by decide),if_neg (by decide),if_pos rfl] at hx
   split at hx
   ·rename_i hn
    rw [if_pos hn] at hN
    rcases zzM.1 hx with hx | hx
    ·exact hcodes [y] hgl hol ih b (by omega) x hx
    ·rw [zzE] at hx;subst hx
     exact may_altI (by omega) (by omega)
   ·rename_i hn
    rw [if_neg hn] at hN
    split at hx
    ·rename_i hm2
     rw [if_pos hm2] at hN
     rcases zzN.1 hx with rfl | hx
     ·exact may_altI (by omega) (by omega)
     ·rcases zzM.1 hx with hx | hx
      ·exact hcodes [y] hgl hol ih (b+1) (by omega) x hx
      ·rw [zzE] at hx;subst hx
       unfold mayB;simp;omega
    ·rename_i hm2
     rw [if_neg hm2] at hN
     rcases zzN.1 hx with rfl | hx
     ·exact may_altI (by omega) (by omega)
     ·exact hcodes [y] hgl hol ih (b+1) (by omega) x hx
  | group y i s hy h0 h1 hm =>
   have hgl:=hgood [y] 7 (by intro s hs;rw [zzE] at hs;rw [hs];exact hy) hs2
   have ho2:(i,s)∈occ (groupT y i s):=by rw [groupT,occ,if_neg (by rintro ⟨h,_⟩;cases h),if_pos rfl];exact zzW _ zzH
   have hol:∀ q∈[y],∀ u∈occ q,0≤u.1∧2*u.1+1 < caps:=by
    intro q hq u hu
    rw [zzE] at hq
    rw [hq] at hu
    refine ho u ?_
    rw [groupT,occ,if_neg (by rintro ⟨h,_⟩;cases h),if_pos rfl]
    exact zzV _ (mem_occs (l:=[y]) zzH hu)
   have hi:=ho _ ho2
   simp only [] at hi
   rw [groupT,lenS,if_neg (by decide),if_pos rfl] at hN
   rw [groupT,codeS,if_neg (by decide),if_neg (by decide),if_pos rfl] at hx
   rcases zzN.1 hx with rfl | hx
   ·unfold mayB;simp;omega
   ·rcases zzM.1 hx with hx | hx
    ·exact hcodes [y] hgl hol ih (b+1) (by omega) x hx
    ·rw [zzE] at hx;subst hx
     unfold mayB;simp;omega
theorem prog_may {t:Tr} (h:allB t=true) (hl:(progL (simpleS t)).length≤20000):checkB ⟨progL (simpleS t),0,2+2*greatest t⟩=true:=by
 obtain ⟨g0,g1,g2⟩:=sound_great t h
 have hpl:=prog_length (simpleS t)
 unfold checkB
 rw [zzc]
 refine ⟨?_,?_⟩
 ·unfold headB
  rw [zzg]
  simp only []
  omega
 ·rw [List.all_eq_true]
  intro x hx
  simp only [] at hx ⊢
  unfold progL at hx
  rcases zzN.1 hx with rfl | hx
  ·unfold mayB;simp;omega
  ·rcases zzM.1 hx with hx | hx
   ·refine code_may (simpleS t) (simple_good t h) (fun u hu=>?_) 1 _ (by omega) x hx
    have hu2:=(simple_occ t h u).1 hu
    have:=occ_great t u hu2
    have:=g2 u hu2
    omega
   ·rcases zzN.1 hx with rfl | hx
    ·unfold mayB;simp;omega
    ·rw [zzE] at hx;subst hx
     unfold mayB;simp
end Go.Proofs.YtgkclnmmjedmkaaGreat.Tr
namespace Go.Proofs.YtgkclnmmjedmkaaGreat
open Tr
def nodeOk (g:Int) (k:Int) (r:List (Int × Int)) (a i:Int) (n:Nat):Prop :=
 (k=1∨k=2∨k=3∨k=4∨k=5∨k=7∨k=-1∨k=-2∨k=-3)∧(k=2→rightB r=true)∧(k=3→∃ j:Nat,j < 6∧a=((2 ^ j:Nat):Int))∧(k=7→0≤i∧i≤g)∧(k=7∨k=-1∨k=-2∨k=-3→0 < n)
mutual
def okS (g:Int):Us→Prop
 | .mk k r a i _ l=>nodeOk g k r a i l.length∧okSs g l
def okSs (g:Int):List Us→Prop
 | []=>True
 | u :: l=>okS g u∧okSs g l
end
theorem okSs_iff {g:Int}:∀ l:List Us,okSs g l ↔ ∀ u∈l,okS g u
 | []=>by simp [okSs]
 | u :: l=>by rw [okSs,okSs_iff l];simp
theorem nodeOk.mono {g g' k a i:Int} {r:List (Int × Int)} {n:Nat} (h:nodeOk g k r a i n) (hg:g≤g'):nodeOk g' k r a i n :=
 ⟨h.1,h.2.1,h.2.2.1,fun e=>⟨(h.2.2.2.1 e).1,Int.le_trans (h.2.2.2.1 e).2 hg⟩,h.2.2.2.2⟩
mutual
theorem okS_mono {g g':Int} (hg:g≤g'):∀ u:Us,okS g u→okS g' u
 | .mk _ _ _ _ _ l,h=>⟨h.1.mono hg,okSs_mono hg l h.2⟩
theorem okSs_mono {g g':Int} (hg:g≤g'):∀ l:List Us,okSs g l→okSs g' l
 | [],_=>trivial
 | u :: l,h=>⟨okS_mono hg u h.1,okSs_mono hg l h.2⟩
end
section
variable {g:Int} {x:Us}
theorem empty_ok:okS g emptyU:=⟨⟨.inl rfl,by simp,by simp,by simp,by simp⟩,trivial⟩
theorem loop_ok {k:Int} {z:Bool} (hk:k=-1∨k=-2∨k=-3) (h:okS g x):okS g (loopU k z x):=by
 refine ⟨⟨by omega,fun e=>by omega,fun e=>by omega,fun e=>by omega,fun _=>by simp⟩,h,trivial⟩
theorem cat_ok {l:List Us} (h:∀ u∈l,okS g u):okS g (catU l):=⟨⟨by omega,fun e=>by omega,fun e=>by omega,fun e=>by omega,fun e=>by omega⟩,(okSs_iff l).2 h⟩
theorem opt_ok {z:Bool} (h:okS g x):∀ n:Nat,okS g (optU z x n)
 | 0=>loop_ok (.inl rfl) h
 | n+1=>loop_ok (.inl rfl) (cat_ok fun u hu=>by
  simp only [zzN,zyA,or_false] at hu
  rcases hu with rfl | rfl
  ·exact h
  ·exact opt_ok h n)
theorem rep_ok {n m:Int} {z:Bool} (h:okS g x):okS g (repU x n m z):=by
 unfold repU
 split
 ·split
  ·exact loop_ok (.inr (.inl rfl)) h
  ·refine cat_ok fun u hu=>?_
   rcases zzM.1 hu with hu | hu
   ·rw [(List.mem_replicate.1 hu).2];exact h
   ·simp only [zzE] at hu
    rw [hu];exact loop_ok (.inr (.inr rfl)) h
 ·split
  ·exact empty_ok
  ·refine cat_ok fun u hu=>?_
   rcases zzM.1 hu with hu | hu
   ·rw [(List.mem_replicate.1 hu).2];exact h
   ·split at hu
    ·simp only [zzE] at hu
     rw [hu];exact opt_ok h _
    ·cases hu
end
theorem assert_pow {a:Int} (h:assertB a=true):∃ j:Nat,j < 6∧a=((2 ^ j:Nat):Int):=by
 unfold assertB at h
 simp only [Bool.or_eq_true,zyE] at h
 rcases h with ((((h | h) | h) | h) | h) | h
 ·exact ⟨0,by decide,by rw [h];rfl⟩
 ·exact ⟨1,by decide,by rw [h];rfl⟩
 ·exact ⟨2,by decide,by rw [h];rfl⟩
 ·exact ⟨3,by decide,by rw [h];rfl⟩
 ·exact ⟨4,by decide,by rw [h];rfl⟩
 ·exact ⟨5,by decide,by rw [h];rfl⟩
theorem node_ok {k:Int} {r:List (Int × Int)} {a n m:Int} {z:Bool} {i g:Int} {s:ByteArray} {q:Nat} (h:nodeF k r a q n m z i s=true) (hk:k≠6) (hg:i≤g):nodeOk g k r a i q:=by
 unfold nodeF at h
 by_cases k1:k=1
 ·subst k1;exact ⟨by omega,fun e=>by omega,fun e=>by omega,fun e=>by omega,fun e=>by omega⟩
 rw [if_neg k1] at h
 by_cases k2:k=2
 ·subst k2
  simp only [reduceIte,zzc] at h
  exact ⟨by omega,fun _=>h.2.2,fun e=>by omega,fun e=>by omega,fun e=>by omega⟩
 rw [if_neg k2] at h
 by_cases k3:k=3
 ·subst k3
  simp only [reduceIte,zzc] at h
  exact ⟨by omega,fun e=>by omega,fun _=>assert_pow h.2.2,fun e=>by omega,fun e=>by omega⟩
 rw [if_neg k3] at h
 by_cases k4:k=4
 ·subst k4;exact ⟨by omega,fun e=>by omega,fun e=>by omega,fun e=>by omega,fun e=>by omega⟩
 rw [if_neg k4] at h
 by_cases k5:k=5
 ·subst k5;exact ⟨by omega,fun e=>by omega,fun e=>by omega,fun e=>by omega,fun e=>by omega⟩
 rw [if_neg k5,if_neg hk] at h
 by_cases k7:k=7
 ·subst k7
  simp only [reduceIte,zzc,zyE,zzg] at h
  exact ⟨by omega,fun e=>by omega,fun e=>by omega,fun _=>⟨by omega,hg⟩,fun _=>by omega⟩
 ·rw [if_neg k7] at h;cases h
mutual
theorem unf_ok:∀ t:Tr.Tr,allB t=true→okS (greatest t) (unfS t)
 | .mk k r a l n m z i s,h=>by
  obtain ⟨hnb,hsub⟩:=(allB_iff _).1 h
  have hs:=unfs_ok l hsub
  have hge:=greatests_ge l i
  have hall:∀ u∈unfSs l,okS (greatests l i) u:=fun u hu=>by
   rw [unfSs_map] at hu
   obtain ⟨v,hv,rfl⟩:=zzp.1 hu
   exact okS_mono (hge.2 v hv) _ (hs v hv)
  rw [unfS,greatest]
  split
  ·rename_i hk
   refine ⟨?_,(okSs_iff _).2 hall⟩
   rw [show (unfSs l).length=l.length from by rw [unfSs_map,zzP]]
   exact node_ok hnb hk hge.1
  ·refine rep_ok ?_
   cases hx:unfSs l with
   | nil=>exact empty_ok
   | cons x l'=>exact hall x (by rw [hx];simp)
theorem unfs_ok:∀ l:List Tr.Tr,(∀ u∈l,allB u=true)→∀ u∈l,okS (greatest u) (unfS u)
 | [],_=>fun u hu=>by cases hu
 | t :: l,h=>fun u hu=>by
  rcases zzN.1 hu with e | hu
  ·rw [e];exact unf_ok t (h t zzH)
  ·exact unfs_ok l (fun v hv=>h v (zzI _ hv)) u hu
end
mutual
theorem all_ok {g:Int}:∀ u:Mean.Un,okS g (shU u)→∀ n∈u.all,nodeOk g n.kind n.rng n.ast n.ix n.subs.length
 | .mk ad k r a i z l,h=>fun n hn=>by
  rw [Mean.Un.all] at hn
  rw [shU] at h
  rcases zzN.1 hn with rfl | hn
  ·have:=h.1
   rwa [shUs_map,zzP] at this
  ·exact alls_ok l h.2 n hn
theorem alls_ok {g:Int}:∀ l:List Mean.Un,okSs g (shUs l)→∀ n∈Mean.allU l,nodeOk g n.kind n.rng n.ast n.ix n.subs.length
 | [],_=>fun n hn=>by rw [Mean.allU] at hn;cases hn
 | u :: l,h=>fun n hn=>by
  rw [Mean.allU] at hn
  rw [shUs] at h
  rcases zzM.1 hn with hn | hn
  ·exact all_ok u h.1 n hn
  ·exact alls_ok l h.2 n hn
end
mutual
def szU:Us→Nat
 | .mk _ _ _ _ _ l=>szUs l+1
def szUs:List Us→Nat
 | []=>0
 | u :: l=>szU u+szUs l
end
mutual
theorem all_len:∀ u:Mean.Un,u.all.length=szU (shU u)
 | .mk _ _ _ _ _ _ l=>by rw [Mean.Un.all,zzO,shU,szU,alls_len l]
theorem alls_len:∀ l:List Mean.Un,(Mean.allU l).length=szUs (shUs l)
 | []=>rfl
 | u :: l=>by rw [Mean.allU,zzG,shUs,szUs,all_len u,alls_len l]
end
theorem node_ix {k:Int} {r:List (Int × Int)} {a n m:Int} {z:Bool} {i:Int} {s:ByteArray} {q:Nat} (h:nodeF k r a q n m z i s=true):0≤i∧i≤500:=by
 have hz:∀ (r:List (Int × Int)) (a n m:Int) (z:Bool) (i:Int) (s:ByteArray),zeroB r a n m z i s=true→i=0:=fun r a n m z i s h=>by
  unfold zeroB at h
  simp only [zzc,zyE] at h
  exact h.2.2.2.2.2.1
 unfold nodeF at h
 by_cases k1:k=1
 ·rw [if_pos k1,zzc] at h;have:=hz _ _ _ _ _ _ _ h.1;omega
 rw [if_neg k1] at h
 by_cases k2:k=2
 ·rw [if_pos k2,zzc] at h;have:=hz _ _ _ _ _ _ _ h.1;omega
 rw [if_neg k2] at h
 by_cases k3:k=3
 ·rw [if_pos k3,zzc] at h;have:=hz _ _ _ _ _ _ _ h.1;omega
 rw [if_neg k3] at h
 by_cases k4:k=4
 ·rw [if_pos k4,zzc] at h;have:=hz _ _ _ _ _ _ _ h.1;omega
 rw [if_neg k4] at h
 by_cases k5:k=5
 ·rw [if_pos k5,zzc] at h;have:=hz _ _ _ _ _ _ _ h.1;omega
 rw [if_neg k5] at h
 by_cases k6:k=6
 ·rw [if_pos k6,zzc] at h;have:=hz _ _ _ _ _ _ _ h.1;omega
 rw [if_neg k6] at h
 by_cases k7:k=7
 ·rw [if_pos k7] at h
  simp only [zzc,zyE,zzg] at h
  omega
 ·rw [if_neg k7] at h;cases h
mutual
theorem grt_bd:∀ t:Tr.Tr,allB t=true→0≤greatest t∧greatest t≤500
 | .mk k r a l n m z i s,h=>by
  obtain ⟨hnb,hsub⟩:=(allB_iff _).1 h
  have hi:=node_ix hnb
  rw [greatest]
  exact ⟨Int.le_trans hi.1 (greatests_ge l i).1,greatests_le l i 500 hi.2 fun t ht=>(grts_bd l hsub t ht).2⟩
theorem grts_bd:∀ l:List Tr.Tr,(∀ u∈l,allB u=true)→∀ u∈l,0≤greatest u∧greatest u≤500
 | [],_=>fun u hu=>by cases hu
 | t :: l,h=>fun u hu=>by
  rcases zzN.1 hu with e | hu
  ·rw [e];exact grt_bd t (h t zzH)
  ·exact grts_bd l (fun v hv=>h v (zzI _ hv)) u hu
end
end Go.Proofs.YtgkclnmmjedmkaaGreat
