/- slices.Repeat of a row of one number. -/
import Derived.Laws.CopyRow
import Derived.Lib.SlBuf
import Derived.Deep.RegionHeldLaw
import Derived.WalkLawsBesides
import Derived.Test.YtgkclnmmjedmkaaGreatP04
import Derived.Test.YtgkclnmmjedmkaaGreatP18
set_option maxRecDepth 100000
set_option maxHeartbeats 2000000
namespace Go.Proofs.YtgkclnmmjedmkaaGreat
open Go.RowKit
theorem int_size1:(Tryz.prog.info? 3).map (·.size)=some 1:=by kernel_rfl
def rp (x:Int) (k n:Nat):List Value:=List.replicate k (.int .i64 x)++List.replicate (n - k) (.int .i64 0)
theorem rp_length {x:Int} {k n:Nat} (h:k≤n):(rp x k n).length=n:=by simp [rp];omega
theorem rp_more {x:Int} {k n c:Nat} (hk:k+c≤n):(rp x k n).take k++List.replicate c (.int .i64 x)++(rp x k n).drop (k+c)=rp x (k+c) n:=by
 unfold rp
 rw [List.take_left' (by simp),List.drop_append,List.drop_of_length_le (by simp),zyC,List.drop_replicate,zzn,←List.replicate_append_replicate]
 congr 2
 omega
theorem set_row_kept (u:World) (g:Nat) (xs:Array Value) (t:TypeId) (cs:List Value) (h:Blk u g t cs):Kept u (u.setRow g xs) [g]∧Blk (u.setRow g xs) g t xs.toList:=by
 refine ⟨⟨rfl,rfl,rfl,by simp [World.setRow],fun k hk hn=>?_⟩,?_⟩
 ·have hne:g≠k:=fun e=>hn (by simp [e])
  unfold World.setRow
  rw [Array.getElem?_modify,if_neg hne]
 ·exact setRow_heap u g _ xs t _ h.raw
theorem copy_rp {u:World} {g k n m sc ab ao cc:Nat} {x:Int} {ty:TypeId} (h:Blk u g 3 (rp x k n)) (hk:k≤n) (c1:cc≤m) (c2:k+cc≤n) (c3:cc=m∨k+cc=n) (hs:∀ j,j < cc→u.cell? ⟨ab,ao+j,none⟩=some (.int .i64 x)) :
  ∃ u',(Builtin.copy_ #[26,26] ty #[.slice (some ⟨g,k,none⟩) (n - k) (n - k),.slice (some ⟨ab,ao,none⟩) m sc]).run Tryz.prog u=.ok (.int .i64 (cc:Int)) u'∧Blk u' g 3 (rp x (k+cc) n)∧Kept u u' [g]:=by
 have hr:=run_copy_row (P:=Tryz.prog) (ty:=ty) u 26 26 3 g k (n - k) (n - k) ⟨ab,ao,none⟩ m sc (rp x k n).toArray 3 (List.replicate cc (.int .i64 x)) Tryz.underlying26 int_size1 h.raw (by rw [zyC];show cc=min m (n - k);omega) (fun j v hj=>by
   rw [List.getElem?_replicate] at hj
   split at hj
   ·rename_i hlt
    rw [add_lit]
    simp only [zzd] at hj
    rw [←hj];exact hs j hlt
   ·cases hj) (by rw [zyC];simp only [List.size_toArray,rp_length hk];omega) (fun v hv=>by rw [(List.mem_replicate.1 hv).2];rfl)
 rw [zyC,show (rp x k n).toArray.toList=rp x k n from rfl,rp_more (by omega)] at hr
 obtain ⟨h1,h2⟩:=set_row_kept u g (rp x (k+cc) n).toArray 3 _ h
 exact ⟨_,hr,h2,h1⟩
theorem repeat_any (ab ao c:Nat) (x:Int) (n:Nat) (w:World) (hc:w.cell? ⟨ab,ao,none⟩=some (.int .i64 x)) (hn:1≤n) (hn2:n≤1048576) :
  Calls Tryz.prog 26 #[.slice (some ⟨ab,ao,none⟩) 1 c,.int .i64 (n:Int)] w fun e w'=>e=.returned (.slice (some ⟨w.heap.size,0,none⟩) n n)∧Below w.heap.size w w'∧Blk w' w.heap.size 3 (List.replicate n (.int .i64 x)):=by
 obtain ⟨i0,hi,hz0,hz1,hz2⟩:=info_parts int_info
 have hmk:∀ u:World,(Instr.makeSlice 26 (.int .i64 (n:Int)) (.int .i64 (n:Int))).run Tryz.prog u =
   .ok (.slice (some ⟨u.heap.size,0,none⟩) n n) (u.alloc (.cells (rp x 0 n).toArray 3)):=fun u=>by
  have h:=run_make (P:=Tryz.prog) u 26 3 i0 (.int .i64 0) Tryz.underlying26 hi hz0 .i64 .i64 (n:Int) (n:Int) (by omega) (Int.le_refl _) (by rw [hz2];omega) (by omega)
  have e:((n:Int)).toNat=n:=by omega
  rw [e] at h
  have hmd:madeCells #[.int .i64 0] n=(rp x 0 n).toArray:=by
   apply Array.toList_inj.1
   rw [toList_madeCells_one];simp [rp]
  simpa [hz1,Value.cells,hmd] using h
 have hw1:IntKind.u64.wrap (n:Int)=(n:Int):=by rw [IntKind.wrap_u64];omega
 have hw2:IntKind.i64.wrap (n:Int)=(n:Int):=by rw [zzx];omega
 have hgt:¬(9223372036854775807 < (n:Int)):=by omega
 have hneg:¬((n:Int) < 0):=by omega
 have HMU:=zzA (fun u=>mul_any n (by omega) u)
 have hbl:=zze w _ hc
 simp only [] at hbl
 have HX:=zzA (zyI w 3 (rp x 0 n))
 have HB:=zzA (show Below w.heap.size w (w.alloc (.cells (rp x 0 n).toArray 3)) from (zzb _ _).alloc (zzF _) _)
 have hca:(w.alloc (.cells (rp x 0 n).toArray 3)).cell? ⟨ab,ao,none⟩=some (.int .i64 x):=(HB.out.cell (p:=⟨ab,ao,none⟩) hbl).trans hc
 clear hc hz0 hz1 hz2 hi
 obtain ⟨u1,hcp1,hx1,hk1⟩:=copy_rp (u:=w.alloc (.cells (rp x 0 n).toArray 3)) (g:=w.heap.size) (k:=0) (n:=n) (m:=1) (sc:=c) (ab:=ab) (ao:=ao) (cc:=1) (x:=x) (ty:=3) HX.out (zzZ _) (zzF _) (by omega) (.inl rfl) (fun j hj=>by
  obtain rfl:j=0:=by omega
  exact hca)
 simp only [Nat.sub_zero,zzw] at hcp1 hx1
 have HX1:=zzA hx1
 have HB1:=zzA (zyH HB.out hk1 (by simp) HB.out.size)
 have HMK:=zzA hmk
 clear hca hk1 hx1 HX HB hbl
 go_enter Tryz.func26,Tryz.ntmps26
 go_wp2_with (first | (go_at_call 47;refine (HMU.out _).mono ?_;rintro e w1 ⟨rfl,rfl⟩;simp only []) | (at_builtin;refine Lib.wpList_copy_run _ rfl (.tmp 31) (.tmp 32) 26 26 rfl _ _ rfl rfl hcp1 ?_))
 generalize hB:w.heap.size=B at *
 go_loopw [8] (fun kv wr=>∃ k:Nat,1≤k∧k≤n∧kv=.int .i64 (k:Int)∧Below B w wr∧Blk wr B 3 (rp x k n)) (fun kv _=>n - (intOf kv).toNat)
 case atStart=>exact ⟨1,zzF _,hn,rfl,HB1.out,HX1.out⟩
 case round =>
  obtain ⟨k,hk0,hk,rfl,hb,hx⟩:=hrel
  by_cases hlt:k < n
  ·have hlti:(k:Int) < (n:Int):=by omega
   have hne:¬(n=k):=by omega
   obtain ⟨cc,hc0,hc1,hc2,hc3⟩:∃ cc,1≤cc∧cc≤k∧k+cc≤n∧(cc=k∨k+cc=n):=by
    by_cases e:k≤n - k
    ·exact ⟨k,hk0,zzF _,by omega,.inl rfl⟩
    ·exact ⟨n - k,by omega,by omega,by omega,.inr (by omega)⟩
   obtain ⟨u2,hcp2,hx2,hk2⟩:=copy_rp (u:=wr.drew) (g:=B) (k:=k) (n:=n) (m:=k) (sc:=n) (ab:=B) (ao:=0) (cc:=cc) (x:=x) (ty:=3) hx.drew hk hc1 hc2 hc3 (fun j hj=>by
    rw [zzw,show wr.drew.cell? ⟨B,j,none⟩=wr.cell? ⟨B,j,none⟩ from rfl,hx.cell]
    unfold rp
    rw [List.getElem?_append_left (by rw [zyC];omega),List.getElem?_replicate,if_pos (by omega)])
   have HX2:=zzA hx2
   have hgt:=hx.lt
   have hbs:=hb.size
   have HB2:=zzA (zyH (bdrewN hb 1) hk2 (by simp) (zzo hx.lt))
   have hwc:IntKind.i64.wrap ((k:Int)+(cc:Int))=((k+cc:Nat):Int):=by rw [zzx];omega
   have kA:B < wr.drew.heap.size:=hx.lt
   have kB:B < u2.heap.size:=hx2.lt
   clear hx hb hx2 hk2
   go_wp2_with fail
   go_region_held_law (fun u=>B < u.heap.size) (first | with_reducible exact kA | with_reducible exact kB)
    (first | (rw [if_pos (by simp [Region.wanted])];refine Lib.wp_copy_run _ (.tmp 41) (.tmp 44) 26 26 rfl (.slice (some ⟨B,k,none⟩) (n - k) (n - k)) (.slice (some ⟨B,0,none⟩) k n) rfl rfl hcp2 ?_;simp only [Act.put,List.getElem_toArray,List.getElem_cons_succ,List.getElem_cons_zero,zzB,zzD,zzC]))
   go_roundw
   case rel =>
    refine ⟨_,_,_,_,_,_,_,_,_,_,_,_,_,_,⟨k+cc,by omega,hc2,?h,HB2.out,HX2.out⟩,rfl⟩
    first | rfl | (rw [hwc])
   case measure=>simp [intOf];omega
  ·obtain rfl:k=n:=by omega
   have hlti:¬((k:Int) < (k:Int)):=by omega
   have HXX:=zzA hx
   have HBB:=zzA hb
   clear hx hb
   go_wp2_with fail
   go_ret
   refine ⟨rfl,HBB.out,?_⟩
   have:=HXX.out
   unfold rp at this
   rwa [Nat.sub_self,List.replicate_zero,zzY] at this
end Go.Proofs.YtgkclnmmjedmkaaGreat
