/- heronlaw06.Much: some Bool. -/
import Derived.Test.YtgkclnmmjedmkaaGreatP22
import Derived.Test.YtgkclnmmjedmkaaGreatP27
set_option maxRecDepth 100000
set_option maxHeartbeats 2000000
namespace Go.Proofs.YtgkclnmmjedmkaaGreat
open Go.RowKit Tr
def isBool (e:Ending):Prop:=∃ b:Bool,e=.returned (.bool b)
theorem much_any (k:Int) (r:List (Int × Int)) (ra:Option Addr) (rc:Nat) (ast:Int) (l:List Ta) (sa:Option Addr) (sc:Nat) (mn mx:Int) (z:Bool) (ix:Int) (nm:ByteArray) (S:Nat→Prop) (At:Option Addr) (n c:Nat) (w:World) (h:RT w S (Ta.mk k r ra rc ast l sa sc mn mx z ix nm)) (hS:∀ b,S b→b < w.heap.size) (hn:n≤c) (hc:c≤9223372036854775807) :
  Calls Tryz.prog 6 #[(Ta.mk k r ra rc ast l sa sc mn mx z ix nm).val,.slice At n c] w fun e w'=>isBool e∧Below w.heap.size w w':=by
 have hb0:Below w.heap.size w (w.alloc (.cells #[.int .i64 k,.slice ra r.length rc,.int .i64 ast,.slice sa l.length sc,.int .i64 mn,.int .i64 mx,.bool z,.int .i64 ix,.string nm] 25)):=(zzb _ _).alloc (zzF _) _
 have HBL:=zzA (zyI w 25 [.int .i64 k,.slice ra r.length rc,.int .i64 ast,.slice sa l.length sc,.int .i64 mn,.int .i64 mx,.bool z,.int .i64 ix,.string nm])
 obtain ⟨r0,r1,r2,r3,r4,r5,r6,r7,r8⟩:=bc9 (HBL.out)
 have HB0:=zzA hb0
 have HT:=zzA h
 have HS:=zzA hS
 have HSO:=zzA (rSound_any (Ta.mk k r ra rc ast l sa sc mn mx z ix nm) S)
 have HSI:=zzA (rsize_any (Ta.mk k r ra rc ast l sa sc mn mx z ix nm) S)
 have HGR:=zzA (rgrt_any (Ta.mk k r ra rc ast l sa sc mn mx z ix nm) S)
 simp only [Ta.val,Ta.vals] at HSO HSI HGR ⊢
 obtain ⟨tt,htt⟩:∃ tt,tt=(Ta.mk k r ra rc ast l sa sc mn mx z ix nm).tr:=⟨_,rfl⟩
 rw [←htt] at HSO HSI HGR
 clear h hS hb0 htt
 go_enter Tryz.func6,Tryz.ntmps6
 by_cases h1:64 < n
 ·have h1i:(64:Int) < (n:Int):=by omega
  go_wp2_with fail
  go_ret
  exact ⟨⟨_,rfl⟩,HB0.out⟩
 have h1i:¬((64:Int) < (n:Int)):=by omega
 go_wp2_with fail
 generalize (w.alloc (.cells #[.int .i64 k,.slice ra r.length rc,.int .i64 ast,.slice sa l.length sc,.int .i64 mn,.int .i64 mx,.bool z,.int .i64 ix,.string nm] 25))=w1 at *
 refine (HSO.out w1 (HT.out.below HS.out HB0.out) (fun b hb=>zzQ (HS.out b hb) HB0.out.size)).mono ?_
 rintro e w2 ⟨rfl,hb2⟩
 have HB2:=zzA (HB0.out.trans (hb2.mono HB0.out.size))
 have HBL2:=zzA (HBL.out.below hb2 HBL.out.lt)
 obtain ⟨s0,s1,s2,s3,s4,s5,s6,s7,s8⟩:=bc9 (HBL2.out)
 clear hb2 r0 r1 r2 r3 r4 r5 r6 r7 r8
 cases hso:soundB tt with
 | false =>
  unfold sv
  rw [hso]
  simp only []
  go_wp2_with fail
  go_ret
  exact ⟨⟨_,rfl⟩,HB2.out⟩
 | true =>
 unfold sv
 rw [hso]
 simp only []
 have HALL:=zzA (sound_parts hso)
 go_wp2_with fail
 refine (HSI.out w2 (HT.out.below HS.out HB2.out) HALL.out (fun b hb=>zzQ (HS.out b hb) HB2.out.size)).mono ?_
 rintro e w3 ⟨rfl,hb3⟩
 have HB3:=zzA (HB2.out.trans (hb3.mono HB2.out.size))
 have HBL3:=zzA (HBL2.out.below hb3 HBL2.out.lt)
 obtain ⟨z0,z1,z2,z3,z4,z5,z6,z7,z8⟩:=bc9 (HBL3.out)
 clear hb3 s0 s1 s2 s3 s4 s5 s6 s7 s8
 obtain ⟨q,hq⟩:∃ q:Nat,q=min (uz tt) 1073741824:=⟨_,rfl⟩
 rw [←hq]
 clear hq
 simp only []
 have hgb:=grt_bd tt HALL.out
 obtain ⟨g0,hg0⟩:∃ g0:Nat,greatest tt=(g0:Int):=⟨(greatest tt).toNat,by omega⟩
 rw [hg0] at hgb HGR
 by_cases h2:q≤2000
 ·have h2i:(q:Int)≤2000:=by omega
  obtain ⟨p1,hp1⟩:∃ p1:Nat,p1=q*(n+1):=⟨_,rfl⟩
  obtain ⟨p2,hp2⟩:∃ p2:Nat,p2=p1*(2*g0+2):=⟨_,rfl⟩
  have hb1:p1≤2000*65:=hp1 ▸ Nat.mul_le_mul h2 (by omega)
  have hb2:p2≤2000*65*1002:=hp2 ▸ Nat.mul_le_mul hb1 (by omega)
  have hw1:IntKind.i64.wrap ((n:Int)+1)=((n+1:Nat):Int):=by rw [zzx];omega
  have hw2:IntKind.i64.wrap ((q:Int)*((n+1:Nat):Int))=(p1:Int):=by rw [show (q:Int)*((n+1:Nat):Int)=(p1:Int) from by rw [hp1];simp,zzx];omega
  have hw3:IntKind.i64.wrap (2*(g0:Int))=2*(g0:Int):=by rw [zzx];omega
  have hw4:IntKind.i64.wrap (2*(g0:Int)+2)=((2*g0+2:Nat):Int):=by rw [zzx];omega
  have hw5:IntKind.i64.wrap ((p1:Int)*((2*g0+2:Nat):Int))=(p2:Int):=by rw [show (p1:Int)*((2*g0+2:Nat):Int)=(p2:Int) from by rw [hp2];simp,zzx];omega
  have HGG:=zzA (HGR.out w3 (HT.out.below HS.out HB3.out) (fun b hb=>zzQ (HS.out b hb) HB3.out.size))
  clear hp1 hp2 hb1 hb2 hg0 hgb hso HSI HSO HGR
  go_wp2_with fail
  refine HGG.out.mono ?_
  rintro e w4 ⟨rfl,hb4⟩
  have HB4:=zzA (HB3.out.trans (hb4.mono HB3.out.size))
  clear hb4
  simp only []
  go_wp2_with fail
  go_ret
  exact ⟨⟨_,rfl⟩,HB4.out⟩
 ·have h2i:¬(q:Int)≤2000:=by omega
  go_wp2_with fail
  go_ret
  exact ⟨⟨_,rfl⟩,HB3.out⟩
end Go.Proofs.YtgkclnmmjedmkaaGreat
