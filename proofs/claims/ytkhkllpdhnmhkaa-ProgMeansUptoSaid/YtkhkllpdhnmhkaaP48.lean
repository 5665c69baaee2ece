/- heronref09.Find, anchored: what walk finds. -/
import Derived.Test.YtkhkllpdhnmhkaaP04
import Derived.Test.YtkhkllpdhnmhkaaP32
namespace Go.Proofs.Ytkhkllpdhnmhkaa
open Go.RowKit Mach
theorem size_found9:(Try.prog.info? 40).map (·.size)=some 4:=by kernel_rfl
theorem und_found9:∃ d,Try.prog.underlying 40=some d∧isRow d=true:=⟨_,Try.underlying40,rfl⟩
def walkAt (p:Prg) (t:List Int) (b:Nat):MS:=final p t 0 (begin_ p b (List.replicate (p.insts.length*places t 0) false) 0)
def F9Post (w:World) (cl:Nat) (f:MS) (e:Ending) (w':World):Prop :=
 Below w.heap.size w w'∧((f.fin=none∧e=.returned (.agg #[.bool false,.slice none 0 0,.int .i64 0,.int .i64 0])) ∨
  ∃ (wh:Int) (C:Nat),f.fin=some wh∧e=.returned (.agg #[.bool true,.slice (some ⟨C,0,none⟩) cl cl,.int .i64 wh,.int .i64 0])∧Blk w' C 3 (f.caps.map (Value.int .i64))∧f.caps.length=cl)
set_option maxRecDepth 100000 in
set_option maxHeartbeats 4000000 in
theorem find9_any (p:Prg) (t:List Int) (L:List InV) (A At:Option Addr) (n c nt ct cl b:Nat) (start:Int) (w:World) (hp:ReadsP w w.heap.size A n c L) (ht:Reads w w.heap.size 1 At nt ct (t.map (Value.int .i64))) (hpi:p.insts=insL L) (hst:p.start=start) (hcp:p.caps=(cl:Int)) (hc:checkB p=true) (hnt:nt≤1000) (hb:b≤nt) :
  Calls Try.prog 10 #[.agg #[.slice A n c,.int .i64 start,.int .i64 (cl:Int)],.slice At nt ct,.int .i64 (b:Int),.bool true] w fun e w'=>F9Post w cl (walkAt p t b) e w':=by
 have htc:=ht.1
 have htc2:=ht.2.1
 have hb2:Below w.heap.size w ((w.alloc (.cells #[.slice A n c,.int .i64 start,.int .i64 (cl:Int)] 31)).alloc (.cells #[.bool false,.slice none 0 0,.int .i64 0,.int .i64 0] 40)):=((zzb _ _).alloc (zzF _) _).alloc (by simp) _
 have hx2:=(Blk.new w 31 [.slice A n c,.int .i64 start,.int .i64 (cl:Int)]).alloc (.cells #[.bool false,.slice none 0 0,.int .i64 0,.int .i64 0] 40)
 have hf2:Blk ((w.alloc (.cells #[.slice A n c,.int .i64 start,.int .i64 (cl:Int)] 31)).alloc (.cells #[.bool false,.slice none 0 0,.int .i64 0,.int .i64 0] 40)) (w.heap.size+1) 40 [.bool false,.slice none 0 0,.int .i64 0,.int .i64 0]:=by
  have:=Blk.new (w.alloc (.cells #[.slice A n c,.int .i64 start,.int .i64 (cl:Int)] 31)) 40 [.bool false,.slice none 0 0,.int .i64 0,.int .i64 0]
  rwa [show (w.alloc (.cells #[.slice A n c,.int .i64 start,.int .i64 (cl:Int)] 31)).heap.size=w.heap.size+1 from by simp] at this
 obtain ⟨f,hf⟩:∃ f,f=walkAt p t b:=⟨_,rfl⟩
 rw [←hf]
 have hbi:(b:Int)≤(nt:Int):=by omega
 have HP:=zzA hp
 have HT:=zzA ht
 have HPI:=zzA hpi
 have HST:=zzA hst
 have HCP:=zzA hcp
 have HC:=zzA hc
 have HB2:=zzA hb2
 have HX2:=zzA hx2
 have HF2:=zzA hf2
 have HFE:=zzA hf
 clear hp ht hpi hst hcp hc hb2 hx2 hf2 hf
 go_enter Try.func10,Try.ntmps10
 go_wp2_with fail
 generalize ((w.alloc (.cells #[.slice A n c,.int .i64 start,.int .i64 (cl:Int)] 31)).alloc (.cells #[.bool false,.slice none 0 0,.int .i64 0,.int .i64 0] 40))=w2 at *
 have HW:=zzA (walk9_any ⟨w2,A,n,c,start,cl,At,nt,ct,w2.heap.size+1,w2.heap.size+2,rfl,rfl⟩ p t L b
  ⟨(HP.out.below HB2.out).more HB2.out.size,(HT.out.below HB2.out).more HB2.out.size,HPI.out,HST.out,HCP.out,HC.out,hnt⟩ hb)
 simp only [] at HW
 rw [show final p t 0 (begin_ p b (List.replicate (p.insts.length*places t 0) false) 0)=f from HFE.out.symm] at HW
 go_loopw [9] (fun iv wr=>iv=.int .i64 (b:Int)∧wr=w2) (fun _ _=>0)
 case atStart=>exact ⟨rfl,rfl⟩
 case round =>
  obtain ⟨rfl,rfl⟩:=hrel
  have x0:=HX2.out.cell 0
  have x1:=HX2.out.cell 1
  have x2:=HX2.out.cell 2
  simp only [zzX,zzR] at x0 x1 x2
  go_wp2_with fail
  refine HW.out.mono ?_
  rintro e w3 ⟨hb3,hcase⟩
  have HB3:=zzA hb3
  have HF3:=zzA (HF2.out.below hb3 HF2.out.lt)
  have y0:=HF3.out.cell 0
  have y1:=HF3.out.cell 1
  have y2:=HF3.out.cell 2
  have y3:=HF3.out.cell 3
  have z0:=HF3.out.frozen 0
  have z1:=HF3.out.frozen 1
  have z2:=HF3.out.frozen 2
  have z3:=HF3.out.frozen 3
  have z4:=HF3.out.lt
  simp only [zzX,zzR] at y0 y1 y2 y3
  clear x0 x1 x2 hb3
  rcases hcase with ⟨hfn,rfl⟩ | ⟨wh,hfn,rfl,hbk,hcl⟩
  ·have HFN:=zzA hfn
   clear hfn
   simp only []
   go_wp2_with fail
   obtain ⟨d,hu,hd⟩:=und_found9
   have HR:=(((HF3.out.set_ 0 (.bool false)).set_ 1 (.slice none 0 0)).set_ 2 (.int .i64 0)).set_ 3 (.int .i64 0)
   refine bodyPost_ret (results_cell_row rfl _ _ (w.heap.size+1) _ #[.bool false,.slice none 0 0,.int .i64 0,.int .i64 0] d rfl HR hu hd size_found9) rfl ?_
   have hbf:=Below.kept (Below.kept (Below.kept (Below.kept (HB2.out.trans (HB3.out.mono HB2.out.size)) (Kept.setCell ⟨w.heap.size+1,0,none⟩ (.bool false)) (by simp) (zzU HB2.out.size HB3.out.size)) (Kept.setCell ⟨w.heap.size+1,1,none⟩ (.slice none 0 0)) (by simp) (by simp [World.setCell];exact zzU HB2.out.size HB3.out.size)) (Kept.setCell ⟨w.heap.size+1,2,none⟩ (.int .i64 0)) (by simp) (by simp [World.setCell];exact zzU HB2.out.size HB3.out.size)) (Kept.setCell ⟨w.heap.size+1,3,none⟩ (.int .i64 0)) (by simp) (by simp [World.setCell];exact zzU HB2.out.size HB3.out.size)
   exact ⟨hbf,.inl ⟨HFN.out,rfl⟩⟩
  ·have HFN:=zzA hfn
   have HBK:=zzA hbk
   have HCL:=zzA hcl
   clear hfn hbk hcl
   simp only []
   go_wp2_with fail
   obtain ⟨d,hu,hd⟩:=und_found9
   have HR:=(((HF3.out.set_ 0 (.bool true)).set_ 1 (.slice (some ⟨wr.heap.size+2,0,none⟩) cl cl)).set_ 2 (.int .i64 wh)).set_ 3 (.int .i64 0)
   refine bodyPost_ret (results_cell_row rfl _ _ (w.heap.size+1) _ #[.bool true,.slice (some ⟨wr.heap.size+2,0,none⟩) cl cl,.int .i64 wh,.int .i64 0] d rfl HR hu hd size_found9) rfl ?_
   have hbf:=Below.kept (Below.kept (Below.kept (Below.kept (HB2.out.trans (HB3.out.mono HB2.out.size)) (Kept.setCell ⟨w.heap.size+1,0,none⟩ (.bool true)) (by simp) (zzU HB2.out.size HB3.out.size)) (Kept.setCell ⟨w.heap.size+1,1,none⟩ (.slice (some ⟨wr.heap.size+2,0,none⟩) cl cl)) (by simp) (by simp [World.setCell];exact zzU HB2.out.size HB3.out.size)) (Kept.setCell ⟨w.heap.size+1,2,none⟩ (.int .i64 wh)) (by simp) (by simp [World.setCell];exact zzU HB2.out.size HB3.out.size)) (Kept.setCell ⟨w.heap.size+1,3,none⟩ (.int .i64 0)) (by simp) (by simp [World.setCell];exact zzU HB2.out.size HB3.out.size)
   refine ⟨hbf,.inr ⟨wh,wr.heap.size+2,HFN.out,rfl,?_,HCL.out⟩⟩
   have hne:wr.heap.size+2≠w.heap.size+1:=by have:=HF2.out.lt;omega
   exact (((HBK.out.far (p:=⟨w.heap.size+1,0,none⟩) hne _).far (p:=⟨w.heap.size+1,1,none⟩) hne _).far (p:=⟨w.heap.size+1,2,none⟩) hne _).far (p:=⟨w.heap.size+1,3,none⟩) hne _
end Go.Proofs.Ytkhkllpdhnmhkaa
