/- slices.Clone of a row of ints. -/
import Derived.Test.YtgkclnmmjedmkaaGreatProg
import Derived.Lib.AppendZerosOnto
import Derived.WalkSpells
import Derived.Lib.SliceRun
import Derived.Handy
import Derived.Test.YtgkclnmmjedmkaaGreatP00
set_option maxRecDepth 100000
set_option maxHeartbeats 2000000
namespace Go.Proofs.YtgkclnmmjedmkaaGreat
open Go.RowKit
theorem int_info:(Tryz.prog.info? 3).map (fun i=>(i.zero,i.size,i.bytes))=some (some (.int .i64 0),1,8):=by kernel_rfl
theorem clone_any (A:Option Addr) (n c:Nat) (l:List Int) (w:World) (hA:A=none→c=0) (hr:Reads w w.heap.size 1 A n c (l.map (Value.int .i64))) (hn:n≤1099511627776) :
  Calls Tryz.prog 33 #[.slice A n c] w fun e w'=>∃ v,e=.returned v∧w'.ownsRow w.heap.size 3 1 v l.length (l.map (Value.int .i64))∧Below w.heap.size w w':=by
 obtain ⟨i0,hi,hz0,hz1,hz2⟩:=info_parts int_info
 have hlen:l.length=n:=by have:=hr.len;simpa using this
 have HLEN:=zzA hlen
 clear hlen
 have hnc:=hr.le
 have hcap:=hr.cap
 have heq:=Lib.run_eql_slice_nil (P:=Tryz.prog) w 26 3 A n c 0 0 Tryz.underlying26
 cases A with
 | none =>
  obtain rfl:c=0:=hA rfl
  obtain rfl:n=0:=by omega
  obtain rfl:l=[]:=zzq HLEN.out
  have HR:=zzA hr
  clear hr hA
  go_enter Tryz.func33,Tryz.ntmps33
  go_wp2_with fail
  go_ret
  exact ⟨_,rfl,World.ownsRow_nil _ _ _ _,zzb _ _⟩
 | some ad =>
  have hr1:Reads (w.alloc (.cells #[] 3)) w.heap.size 1 (some ad) n c (l.map (Value.int .i64)):=hr.alloc (zzF _) _
  have ho:(w.alloc (.cells #[] 3)).ownsRow w.heap.size 3 1 (.slice (some ⟨w.heap.size,0,none⟩) 0 0) 0 []:=own_lit w w.heap.size 3 1 0 #[] [] (zzF _) rfl rfl (by decide)
  have hb:Below w.heap.size w (w.alloc (.cells #[] 3)):=(zzb _ _).alloc (zzF _) _
  have HR:=zzA hr1
  have HO:=zzA ho
  clear hr hr1 ho hA
  go_enter Tryz.func33,Tryz.ntmps33
  go_wp2_with (at_builtin;refine wpList_append_reads rfl (.tmp 5) (.tmp 6) 26 rfl w.heap.size 3 i0 (.int .i64 0) 1 8 Tryz.underlying26 hi hz0 hz1 hz2 rfl (by decide) _ 0 [] rfl HO.out (some ad) w.heap.size n c (l.map (Value.int .i64)) rfl (fun h=>by cases h) HR.out (ints_oneCell _ _) (by unfold maxLen;omega) (by omega) (by simp) ?_;intro v1 w1 ha1)
  go_ret
  have hbe:=hb.grown ha1.grown (by simp) (fun k hk=>(HO.out.lt k hk).1)
  have:=ha1.own
  rw [zzw,zzn,←HLEN.out] at this
  exact ⟨_,rfl,this,hbe⟩
end Go.Proofs.YtgkclnmmjedmkaaGreat
