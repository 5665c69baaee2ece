/- meaning.Parses: the errors. -/
import Derived.Test.YtgkclnmmjedmkaaGreatP13
import Derived.Test.YtgkclnmmjedmkaaGreatP17
import Derived.Test.YtgkclnmmjedmkaaGreatP19
import Derived.Test.YtgkclnmmjedmkaaGreatP21
set_option maxRecDepth 100000
set_option maxHeartbeats 4000000
namespace Go.Proofs.YtgkclnmmjedmkaaGreat
open Go.RowKit Tr
def parE (t:Tr.Tr) (n:Nat) (at_:Int):Int:=if 64 < n then 2 else if soundB t=false then 50 else if 2000 < uz t then 3 else if at_ < 0∨(n:Int) < at_ then 1 else 0
theorem sound_parts {t:Tr.Tr} (h:soundB t=true):allB t=true:=(sound_all h).1
theorem parses_err (k:Int) (r:List (Int × Int)) (ra:Option Addr) (rc:Nat) (ast:Int) (l:List Ta) (sa:Option Addr) (sc:Nat) (mn mx:Int) (z:Bool) (ix:Int) (nm:ByteArray) (S:Nat→Prop) (At:Option Addr) (n c:Nat) (at_:Int) (w:World) (h:RT w S (Ta.mk k r ra rc ast l sa sc mn mx z ix nm)) (hS:∀ b,S b→b < w.heap.size) (hn:n≤c) (he:parE (Ta.mk k r ra rc ast l sa sc mn mx z ix nm).tr n at_≠0) :
  Calls Tryz.prog 9 #[(Ta.mk k r ra rc ast l sa sc mn mx z ix nm).val,.slice At n c,.int .i64 at_] w fun e w'=>e=.returned (.tuple #[.slice none 0 0,.int .i64 (parE (Ta.mk k r ra rc ast l sa sc mn mx z ix nm).tr n at_)])∧Below w.heap.size w w':=by
 have hb1:Below w.heap.size w ((w.alloc (.cells #[.int .i64 k,.slice ra r.length rc,.int .i64 ast,.slice sa l.length sc,.int .i64 mn,.int .i64 mx,.bool z,.int .i64 ix,.string nm] 25)).alloc (.cells #[.int .i64 at_] 3)):=((zzb _ _).alloc (zzF _) _).alloc (by simp) _
 have hbk:=(zyI w 25 [.int .i64 k,.slice ra r.length rc,.int .i64 ast,.slice sa l.length sc,.int .i64 mn,.int .i64 mx,.bool z,.int .i64 ix,.string nm]).alloc (.cells #[.int .i64 at_] 3)
 have hba:Blk ((w.alloc (.cells #[.int .i64 k,.slice ra r.length rc,.int .i64 ast,.slice sa l.length sc,.int .i64 mn,.int .i64 mx,.bool z,.int .i64 ix,.string nm] 25)).alloc (.cells #[.int .i64 at_] 3)) (w.heap.size+1) 3 [.int .i64 at_]:=by
  have:=zyI (w.alloc (.cells #[.int .i64 k,.slice ra r.length rc,.int .i64 ast,.slice sa l.length sc,.int .i64 mn,.int .i64 mx,.bool z,.int .i64 ix,.string nm] 25)) 3 [.int .i64 at_]
  rwa [show (w.alloc (.cells #[.int .i64 k,.slice ra r.length rc,.int .i64 ast,.slice sa l.length sc,.int .i64 mn,.int .i64 mx,.bool z,.int .i64 ix,.string nm] 25)).heap.size=w.heap.size+1 from by simp] at this
 obtain ⟨t0,t1,t2,t3,t4,t5,t6,t7,t8⟩:=bc9 (hbk)
 have HT:=zzA h
 have HS:=zzA hS
 have HB1:=zzA hb1
 have HBK:=zzA hbk
 have HBA:=zzA hba
 obtain ⟨E,hE⟩:∃ E,E=parE (Ta.mk k r ra rc ast l sa sc mn mx z ix nm).tr n at_:=⟨_,rfl⟩
 rw [←hE] at he ⊢
 have HSO:=zzA (pSound_any (Ta.mk k r ra rc ast l sa sc mn mx z ix nm) S)
 have HSI:=zzA (msize_any (Ta.mk k r ra rc ast l sa sc mn mx z ix nm) S)
 simp only [Ta.val,Ta.vals] at HSO HSI ⊢
 obtain ⟨tt,htt⟩:∃ tt,tt=(Ta.mk k r ra rc ast l sa sc mn mx z ix nm).tr:=⟨_,rfl⟩
 rw [←htt] at HSO HSI hE
 have HTT:=zzA htt
 have HE:=zzA hE
 clear h hS hb1 hbk hba htt hE
 go_enter Tryz.func9,Tryz.ntmps9
 by_cases h1:64 < n
 ·have h1i:(64:Int) < (n:Int):=by omega
  have HEE:=zzA (show E=2 from by rw [HE.out,parE,if_pos h1])
  go_wp2_with fail
  go_ret2
  exact ⟨by rw [HEE.out];rfl,HB1.out⟩
 have h1i:¬((64:Int) < (n:Int)):=by omega
 go_wp2_with fail
 generalize ((w.alloc (.cells #[.int .i64 k,.slice ra r.length rc,.int .i64 ast,.slice sa l.length sc,.int .i64 mn,.int .i64 mx,.bool z,.int .i64 ix,.string nm] 25)).alloc (.cells #[.int .i64 at_] 3))=w1 at *
 refine (HSO.out w1 (HT.out.below HS.out HB1.out) (fun b hb=>zzQ (HS.out b hb) HB1.out.size)).mono ?_
 rintro e w2 ⟨rfl,hb2⟩
 have hlt0:=HBK.out.lt
 have s0:w2.cell? ⟨w.heap.size,0,none⟩=some (.int .i64 k):=(hb2.cell (p:=⟨w.heap.size,0,none⟩) hlt0).trans t0
 have s1:w2.cell? ⟨w.heap.size,1,none⟩=some (.slice ra r.length rc):=(hb2.cell (p:=⟨w.heap.size,1,none⟩) hlt0).trans t1
 have s2:w2.cell? ⟨w.heap.size,2,none⟩=some (.int .i64 ast):=(hb2.cell (p:=⟨w.heap.size,2,none⟩) hlt0).trans t2
 have s3:w2.cell? ⟨w.heap.size,3,none⟩=some (.slice sa l.length sc):=(hb2.cell (p:=⟨w.heap.size,3,none⟩) hlt0).trans t3
 have s4:w2.cell? ⟨w.heap.size,4,none⟩=some (.int .i64 mn):=(hb2.cell (p:=⟨w.heap.size,4,none⟩) hlt0).trans t4
 have s5:w2.cell? ⟨w.heap.size,5,none⟩=some (.int .i64 mx):=(hb2.cell (p:=⟨w.heap.size,5,none⟩) hlt0).trans t5
 have s6:w2.cell? ⟨w.heap.size,6,none⟩=some (.bool z):=(hb2.cell (p:=⟨w.heap.size,6,none⟩) hlt0).trans t6
 have s7:w2.cell? ⟨w.heap.size,7,none⟩=some (.int .i64 ix):=(hb2.cell (p:=⟨w.heap.size,7,none⟩) hlt0).trans t7
 have s8:w2.cell? ⟨w.heap.size,8,none⟩=some (.string nm):=(hb2.cell (p:=⟨w.heap.size,8,none⟩) hlt0).trans t8
 have HB2:=zzA (HB1.out.trans (hb2.mono HB1.out.size))
 have HBA2:=zzA (HBA.out.below hb2 HBA.out.lt)
 have HBK2:=zzA (HBK.out.below hb2 hlt0)
 clear hb2 hlt0 t0 t1 t2 t3 t4 t5 t6 t7 t8
 cases hso:soundB tt with
 | false =>
  have HEE:=zzA (show E=50 from by rw [HE.out,parE,if_neg h1,if_pos hso])
  unfold sv
  rw [hso]
  simp only []
  go_wp2_with fail
  go_ret2
  exact ⟨by rw [HEE.out];rfl,HB2.out⟩
 | true =>
 unfold sv
 rw [hso]
 simp only []
 have HALL:=zzA (sound_parts hso)
 go_wp2_with fail
 refine (HSI.out w2 (HT.out.below HS.out HB2.out) HALL.out (fun b hb=>zzQ (HS.out b hb) HB2.out.size)).mono ?_
 rintro e w3 ⟨rfl,hb3⟩
 have HB3:=zzA (HB2.out.trans (hb3.mono HB2.out.size))
 have ra:w3.cell? ⟨w.heap.size+1,0,none⟩=some (.int .i64 at_):=(HBA2.out.below hb3 HBA2.out.lt).cell 0
 clear hb3 s0 s1 s2 s3 s4 s5 s6 s7 s8
 by_cases h2:2000 < uz tt
 ·have HEE:=zzA (show E=3 from by rw [HE.out,parE,if_neg h1,if_neg (by rw [hso];simp),if_pos h2])
  obtain ⟨q,hq⟩:∃ q:Nat,q=min (uz tt) 2001:=⟨_,rfl⟩
  rw [←hq]
  have hq2:(2000:Int) < (q:Int):=by omega
  clear hq
  simp only []
  go_wp2_with fail
  go_ret2
  exact ⟨by rw [HEE.out];rfl,HB3.out⟩
 have HEE:=zzA (show E=1∧(at_ < 0∨(n:Int) < at_) from by
  have h:=HE.out
  rw [parE,if_neg h1,if_neg (by rw [hso];simp),if_neg h2] at h
  split at h
  ·exact ⟨h,by assumption⟩
  ·exact absurd h he)
 obtain ⟨q,hq⟩:∃ q:Nat,q=min (uz tt) 2001:=⟨_,rfl⟩
 rw [←hq]
 have hq2:¬((2000:Int) < (q:Int)):=by omega
 clear hq
 simp only []
 by_cases h3:at_ < 0
 ·go_wp2_with fail
  go_ret2
  exact ⟨by rw [HEE.out.1];rfl,HB3.out⟩
 ·have h4:(n:Int) < at_:=HEE.out.2.resolve_left h3
  go_wp2_with fail
  go_ret2
  exact ⟨by rw [HEE.out.1];rfl,HB3.out⟩
end Go.Proofs.YtgkclnmmjedmkaaGreat
