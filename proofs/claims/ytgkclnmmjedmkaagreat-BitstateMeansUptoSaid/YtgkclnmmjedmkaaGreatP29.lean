/- slices.Clone at ranges and at nodes. -/
import Derived.Test.YtgkclnmmjedmkaaGreatProg
import Derived.Lib.AppendZerosOnto
import Derived.WalkSpells
import Derived.Lib.SliceRun
import Derived.Lib.Hide
import Derived.Handy
import Derived.Test.YtgkclnmmjedmkaaGreatP03
set_option maxRecDepth 100000
set_option maxHeartbeats 2000000
namespace Go.Proofs.YtgkclnmmjedmkaaGreat
open Go.RowKit
theorem info_clone_rng:(Tryz.prog.info? 91).map (fun i=>(i.zero,i.size,i.bytes))=some (some (.agg #[.int .i64 0,.int .i64 0]),2,16):=by kernel_rfl
theorem info_clone_nodes:(Tryz.prog.info? 25).map (fun i=>(i.zero,i.size,i.bytes))=some (some (.agg #[.int .i64 0,.slice none 0 0,.int .i64 0,.slice none 0 0,.int .i64 0,.int .i64 0,.bool false,.int .i64 0,.string ⟨#[]⟩]),9,112):=by kernel_rfl
theorem clone_rng (A:Option Addr) (n c:Nat) (l:List (Int × Int)) (w:World) (hA:A=none→c=0) (hr:Reads w w.heap.size 2 A n c (flat l)) (hn:n≤4194304) :
  Calls Tryz.prog 102 #[.slice A n c] w fun e w'=>∃ v,e=.returned v∧w'.ownsRow w.heap.size 91 2 v l.length (flat l)∧Below w.heap.size w w':=by
 obtain ⟨i0,hi,hz0,hz1,hz2⟩:=info_parts info_clone_rng
 have hlen:l.length=n:=by have:=hr.len;rw [flat_length] at this;omega
 have HLEN:=zzA hlen
 clear hlen
 have hnc:=hr.le
 have hcap:=hr.cap
 have heq:=Lib.run_eql_slice_nil (P:=Tryz.prog) w 22 91 A n c 0 0 Tryz.underlying22
 cases A with
 | none =>
  obtain rfl:c=0:=hA rfl
  obtain rfl:n=0:=by omega
  obtain rfl:l=[]:=zzq HLEN.out
  have HR:=zzA hr
  clear hr hA
  go_enter Tryz.func102,Tryz.ntmps102
  go_wp2_with fail
  go_ret
  exact ⟨_,rfl,World.ownsRow_nil _ _ _ _,zzb _ _⟩
 | some ad =>
  have hr1:Reads (w.alloc (.cells #[] 91)) w.heap.size 2 (some ad) n c (flat l):=hr.alloc (zzF _) _
  have ho:(w.alloc (.cells #[] 91)).ownsRow w.heap.size 91 2 (.slice (some ⟨w.heap.size,0,none⟩) 0 0) 0 []:=own_lit w w.heap.size 91 2 0 #[] [] (zzF _) rfl rfl (by decide)
  have hb:Below w.heap.size w (w.alloc (.cells #[] 91)):=(zzb _ _).alloc (zzF _) _
  have HR:=zzA hr1
  have HO:=zzA ho
  clear hr hr1 ho hA
  go_enter Tryz.func102,Tryz.ntmps102
  go_wp2_with (at_builtin;refine wpList_append_reads rfl (.tmp 5) (.tmp 6) 22 rfl w.heap.size 91 i0 (.agg #[.int .i64 0,.int .i64 0]) 2 16 Tryz.underlying22 hi hz0 hz1 hz2 rfl (by decide) _ 0 [] rfl HO.out (some ad) w.heap.size n c (flat l) rfl (fun h=>by cases h) HR.out (flat_one l) (by unfold maxLen;omega) (by omega) (by simp) ?_;intro v1 w1 ha1)
  go_ret
  have hbe:=hb.grown ha1.grown (by simp) (fun k hk=>(HO.out.lt k hk).1)
  have:=ha1.own
  rw [zzw,zzn,←HLEN.out] at this
  exact ⟨_,rfl,this,hbe⟩
theorem clone_nodes (A:Option Addr) (n c:Nat) (l:List Ta) (w:World) (hA:A=none→c=0) (hr:Reads w w.heap.size 9 A n c (rowT l)) (hn:n≤4194304) :
  Calls Tryz.prog 103 #[.slice A n c] w fun e w'=>∃ v,e=.returned v∧w'.ownsRow w.heap.size 25 9 v l.length (rowT l)∧Below w.heap.size w w':=by
 obtain ⟨i0,hi,hz0,hz1,hz2⟩:=info_parts info_clone_nodes
 have hlen:l.length=n:=by have:=hr.len;rw [rowT_length] at this;omega
 have HLEN:=zzA hlen
 clear hlen
 have hnc:=hr.le
 have hcap:=hr.cap
 have heq:=Lib.run_eql_slice_nil (P:=Tryz.prog) w 23 25 A n c 0 0 Tryz.underlying23
 cases A with
 | none =>
  obtain rfl:c=0:=hA rfl
  obtain rfl:n=0:=by omega
  obtain rfl:l=[]:=zzq HLEN.out
  have HR:=zzA hr
  clear hr hA
  go_enter Tryz.func103,Tryz.ntmps103
  go_wp2_with fail
  go_ret
  exact ⟨_,rfl,World.ownsRow_nil _ _ _ _,zzb _ _⟩
 | some ad =>
  have hr1:Reads (w.alloc (.cells #[] 25)) w.heap.size 9 (some ad) n c (rowT l):=hr.alloc (zzF _) _
  have ho:(w.alloc (.cells #[] 25)).ownsRow w.heap.size 25 9 (.slice (some ⟨w.heap.size,0,none⟩) 0 0) 0 []:=own_lit w w.heap.size 25 9 0 #[] [] (zzF _) rfl rfl (by decide)
  have hb:Below w.heap.size w (w.alloc (.cells #[] 25)):=(zzb _ _).alloc (zzF _) _
  have HR:=zzA hr1
  have HO:=zzA ho
  clear hr hr1 ho hA
  go_enter Tryz.func103,Tryz.ntmps103
  go_wp2_with (at_builtin;refine wpList_append_reads rfl (.tmp 5) (.tmp 6) 23 rfl w.heap.size 25 i0 (.agg #[.int .i64 0,.slice none 0 0,.int .i64 0,.slice none 0 0,.int .i64 0,.int .i64 0,.bool false,.int .i64 0,.string ⟨#[]⟩]) 9 112 Tryz.underlying23 hi hz0 hz1 hz2 rfl (by decide) _ 0 [] rfl HO.out (some ad) w.heap.size n c (rowT l) rfl (fun h=>by cases h) HR.out (rowT_one l) (by unfold maxLen;omega) (by omega) (by simp) ?_;intro v1 w1 ha1)
  go_ret
  have hbe:=hb.grown ha1.grown (by simp) (fun k hk=>(HO.out.lt k hk).1)
  have:=ha1.own
  rw [zzw,zzn,←HLEN.out] at this
  exact ⟨_,rfl,this,hbe⟩
end Go.Proofs.YtgkclnmmjedmkaaGreat
