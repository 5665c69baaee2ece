/- heronref09.walk: what is found from a place on. -/
import Derived.Deep.LoopGhost
import Derived.Deep.Cut
import Derived.BigRegion
import Derived.BigQuiet
import Derived.OwnWalk
import Derived.Test.YtkhkllpdhnmhkaaP26
namespace Go.Proofs.Ytkhkllpdhnmhkaa
open Go.RowKit Mach
theorem info_bool9:(Try.prog.info? 4).map (fun i=>(i.zero,i.size,i.bytes))=some (some (.bool false),1,1):=by kernel_rfl
theorem info_int9:(Try.prog.info? 3).map (fun i=>(i.zero,i.size,i.bytes))=some (some (.int .i64 0),1,8):=by kernel_rfl
theorem make_bools9 (n:Nat) (hn:n≤1099511627776) (u:World):(Instr.makeSlice 70 (.int .i64 (n:Int)) (.int .i64 (n:Int))).run Try.prog u =
  .ok (.slice (some ⟨u.heap.size,0,none⟩) n n) (u.alloc (.cells ((List.replicate n false).map Value.bool).toArray 4)):=by
 obtain ⟨iI,hiI,hz0,hz1,hz2⟩:=info_parts info_bool9
 have h:=run_make (P:=Try.prog) u 70 4 iI (.bool false) Try.underlying70 hiI hz0 .i64 .i64 (n:Int) (n:Int) (by omega) (Int.le_refl _) (by rw [hz2];omega) (by omega)
 have hmd:madeCells #[.bool false] n=((List.replicate n false).map Value.bool).toArray:=by
  apply Array.toList_inj.1
  rw [toList_madeCells_one];simp
 rw [Int.toNat_natCast] at h
 rw [←hmd]
 simpa [hz1,Value.cells] using h
theorem make_ints9 (n:Nat) (hn:n≤1099511627776) (u:World):(Instr.makeSlice 26 (.int .i64 (n:Int)) (.int .i64 (n:Int))).run Try.prog u =
  .ok (.slice (some ⟨u.heap.size,0,none⟩) n n) (u.alloc (.cells ((List.replicate n (0:Int)).map (Value.int .i64)).toArray 3)):=by
 obtain ⟨iI,hiI,hz0,hz1,hz2⟩:=info_parts info_int9
 have h:=run_make (P:=Try.prog) u 26 3 iI (.int .i64 0) Try.underlying26 hiI hz0 .i64 .i64 (n:Int) (n:Int) (by omega) (Int.le_refl _) (by rw [hz2];omega) (by omega)
 have hmd:madeCells #[.int .i64 0] n=((List.replicate n (0:Int)).map (Value.int .i64)).toArray:=by
  apply Array.toList_inj.1
  rw [toList_madeCells_one];simp
 rw [Int.toNat_natCast] at h
 rw [←hmd]
 simpa [hz1,Value.cells] using h
theorem ones_set9 (n i:Nat) (h:i < n):(List.replicate i (-1:Int)++List.replicate (n - i) 0).set i (-1)=List.replicate (i+1) (-1)++List.replicate (n - (i+1)) 0:=by
 rw [List.set_append_right _ _ (by simp),List.length_replicate,Nat.sub_self,show n - i=(n - (i+1))+1 from by omega,List.replicate_succ,zzD,List.replicate_succ',List.append_assoc];rfl
def W9Post (x:Nx) (f:MS) (e:Ending) (w':World):Prop :=
 Below x.w0.heap.size x.w0 w'∧((f.fin=none∧e=.returned (.tuple #[.int .i64 0,.slice none 0 0,.bool false])) ∨
  ∃ wh,f.fin=some wh∧e=.returned (.tuple #[.int .i64 wh,.slice (some ⟨x.w0.heap.size+2,0,none⟩) x.cl x.cl,.bool true])∧Blk w' (x.w0.heap.size+2) 3 (f.caps.map (Value.int .i64))∧f.caps.length=x.cl)
set_option maxRecDepth 100000 in
set_option maxHeartbeats 8000000 in
theorem walk9_any (x:Nx) (p:Prg) (t:List Int) (L:List InV) (b:Nat) (hx:Nk x p t L) (hb:b≤x.nt) :
  Calls Try.prog 28 #[.agg #[.slice x.A x.n x.c,.int .i64 x.start,.int .i64 (x.cl:Int)],.slice x.At x.nt x.ct,.int .i64 (b:Int)] x.w0 fun e w'=>W9Post x (final p t 0 (begin_ p b (List.replicate (p.insts.length*places t 0) false) 0)) e w':=by
 have hcb:=(head_of hx.chk).2.2
 have hcn:=(head_of hx.chk).2.1
 have hsn:=head_of hx.chk
 have hnl:=hx.nl
 have htl:=hx.tl
 have hntl:=hx.ntl
 have hcp:=hx.cp
 have hst:=hx.st
 have hcl:2≤x.cl∧x.cl≤1002:=by omega
 have hx20:x.n≤20000:=by omega
 have hnc:=hx.rp.1.1
 have hcc:=hx.rp.1.2.1
 have htc:=hx.rt.1
 have htc2:=hx.rt.2.1
 obtain ⟨pl,hpl⟩:∃ pl:Nat,pl=x.nt+1:=⟨_,rfl⟩
 obtain ⟨N,hN⟩:∃ N:Nat,N=x.n*pl:=⟨_,rfl⟩
 have hN2:N≤20020000:=by rw [hN];exact zzU (Nat.mul_le_mul hx20 (show pl≤1001 by omega)) (by decide)
 have hple:(x.nt:Int)+1=(pl:Int):=by omega
 have hNe:(x.n:Int)*(pl:Int)=(N:Int):=by rw [hN];push_cast;rfl
 have hpls:places t 0=pl:=by unfold places;rw [htl];omega
 have hmkB:=make_bools9 N (by omega)
 have hmkC:=make_ints9 x.cl (by omega)
 obtain ⟨s0,hs0⟩:∃ s0,s0=begin_ p b (List.replicate (p.insts.length*places t 0) false) 0:=⟨_,rfl⟩
 rw [←hs0]
 have HS00:=zzA hs0
 have HX:=zzA hx
 have HNL:=zzA hnl
 have HTL:=zzA htl
 have HPLS:=zzA hpls
 have HPL:=zzA hpl
 have HN:=zzA hN
 have HCL:=zzA hcl
 have HST:=zzA hst
 have HCP:=zzA hcp
 have HS0:=zzA (show 0≤x.start∧x.start < (x.n:Int) from by omega)
 have HBX:=zzA (Blk.new x.w0 31 [.slice x.A x.n x.c,.int .i64 x.start,.int .i64 (x.cl:Int)])
 have hbx0:(x.w0.alloc (.cells #[.slice x.A x.n x.c,.int .i64 x.start,.int .i64 (x.cl:Int)] 31)).cell? ⟨x.w0.heap.size,0,none⟩=some (.slice x.A x.n x.c):=HBX.out.cell 0
 have hbx2:((x.w0.alloc (.cells #[.slice x.A x.n x.c,.int .i64 x.start,.int .i64 (x.cl:Int)] 31)).alloc (.cells ((List.replicate N false).map Value.bool).toArray 4)).cell? ⟨x.w0.heap.size,2,none⟩=some (.int .i64 (x.cl:Int)):=(HBX.out.alloc _).cell 2
 clear hs0 hx hnl htl hpls hpl hN hcl hst hcp hcb hcn hsn
 go_enter Try.func28,Try.ntmps28
 go_wp2_with fail
 have hlo:=x.lo
 have HLO:=zzA hlo
 rw [show x.w0.heap.size+1+1=x.C from by omega,show x.w0.heap.size+1=x.M from by omega]
 have hB3:=zzA (show Below x.w0.heap.size x.w0 (((x.w0.alloc (.cells #[.slice x.A x.n x.c,.int .i64 x.start,.int .i64 (x.cl:Int)] 31)).alloc (.cells (Array.replicate N (.bool false)) 4)).alloc (.cells (Array.replicate x.cl (.int .i64 0)) 3)) from (((zzb _ _).alloc (zzF _) _).alloc (by simp) _).alloc (by simp;omega) _)
 have hX3:=zzA ((HBX.out.alloc (.cells (Array.replicate N (.bool false)) 4)).alloc (.cells (Array.replicate x.cl (.int .i64 0)) 3))
 have hM3:=zzA (show Blk (((x.w0.alloc (.cells #[.slice x.A x.n x.c,.int .i64 x.start,.int .i64 (x.cl:Int)] 31)).alloc (.cells (Array.replicate N (.bool false)) 4)).alloc (.cells (Array.replicate x.cl (.int .i64 0)) 3)) x.M 4 ((List.replicate N false).map Value.bool) from by
  have:=Blk.new (x.w0.alloc (.cells #[.slice x.A x.n x.c,.int .i64 x.start,.int .i64 (x.cl:Int)] 31)) 4 ((List.replicate N false).map Value.bool)
  rw [show (x.w0.alloc (.cells #[.slice x.A x.n x.c,.int .i64 x.start,.int .i64 (x.cl:Int)] 31)).heap.size=x.M from by simp;omega] at this
  simpa using this.alloc (.cells (Array.replicate x.cl (.int .i64 0)) 3))
 have hC3:=zzA (show Blk (((x.w0.alloc (.cells #[.slice x.A x.n x.c,.int .i64 x.start,.int .i64 (x.cl:Int)] 31)).alloc (.cells (Array.replicate N (.bool false)) 4)).alloc (.cells (Array.replicate x.cl (.int .i64 0)) 3)) x.C 3 ((List.replicate x.cl (0:Int)).map (Value.int .i64)) from by
  have:=Blk.new ((x.w0.alloc (.cells #[.slice x.A x.n x.c,.int .i64 x.start,.int .i64 (x.cl:Int)] 31)).alloc (.cells (Array.replicate N (.bool false)) 4)) 3 ((List.replicate x.cl (0:Int)).map (Value.int .i64))
  rw [show ((x.w0.alloc (.cells #[.slice x.A x.n x.c,.int .i64 x.start,.int .i64 (x.cl:Int)] 31)).alloc (.cells (Array.replicate N (.bool false)) 4)).heap.size=x.C from by simp;omega] at this
  simpa using this)
 clear hmkB hmkC hbx0 hbx2 HBX hlo
 generalize (((x.w0.alloc (.cells #[.slice x.A x.n x.c,.int .i64 x.start,.int .i64 (x.cl:Int)] 31)).alloc (.cells (Array.replicate N (.bool false)) 4)).alloc (.cells (Array.replicate x.cl (.int .i64 0)) 3))=w1 at *
 go_loopw [12] (fun q wr=>∃ i:Nat,i≤x.cl∧q=.int .i64 i∧Below x.w0.heap.size x.w0 wr∧Blk wr x.w0.heap.size 31 [.slice x.A x.n x.c,.int .i64 x.start,.int .i64 (x.cl:Int)]∧Blk wr x.M 4 ((List.replicate N false).map Value.bool)∧Blk wr x.C 3 ((List.replicate i (-1:Int)++List.replicate (x.cl - i) 0).map (Value.int .i64))) (fun q _=>x.cl - (intOf q).toNat)
 case atStart=>exact ⟨0,by omega,rfl,hB3.out,hX3.out,hM3.out,by simpa using hC3.out⟩
 case round =>
  obtain ⟨i,hi,rfl,hbw,hbx,hbm,hbc⟩:=hrel
  have hcl2:x.cl≤1002:=HCL.out.2
  by_cases hlt:i < x.cl
  ·have hlt2:(i:Int) < (x.cl:Int):=by omega
   have g1:wr.cell? ⟨x.C,i,none⟩=some (.int .i64 0):=by
    rw [hbc.cell,zza,List.getElem?_append_right (by simp),List.length_replicate,Nat.sub_self,List.getElem?_replicate,if_pos (by omega)];rfl
   have g2:wr.frozen? ⟨x.C,i,none⟩=false:=hbc.frozen i
   have g3:=hbc.lt
   have HBW:=zzA hbw
   have HBX:=zzA hbx
   have HBM:=zzA hbm
   have HBC:=zzA hbc
   clear hbw hbx hbm hbc
   go_wp2_with fail
   go_roundw
   case rel =>
    refine ⟨i+1,by omega,by go_num,Below.kept HBW.out (Kept.setCell _ _) (by intro g hg;rw [zzE] at hg;rw [hg];have:=HLO.out;simp only [];omega) HBW.out.size,HBX.out.far (p:=⟨x.C,i,none⟩) (by have:=HLO.out;simp only [];omega) _,HBM.out.far (p:=⟨x.C,i,none⟩) (by have:=HLO.out;simp only [];omega) _,?_⟩
    have:=HBC.out.set_ i (.int .i64 (-1))
    rw [←List.map_set,ones_set9 x.cl i hlt] at this
    exact this
   case measure=>simp [intOf];omega
  ·obtain rfl:i=x.cl:=by omega
   have hlt2:¬((x.cl:Int) < (x.cl:Int)):=by omega
   have c1:wr.cell? ⟨x.w0.heap.size,1,none⟩=some (.int .i64 x.start):=hbx.cell 1
   have HBW:=zzA hbw
   have HBX:=zzA hbx
   have HBM:=zzA hbm
   have HBC:=zzA hbc
   clear hbw hbx hbm hbc
   go_wp2_with fail
   have hbeg:begin_ p b (List.replicate (p.insts.length*places t 0) false) 0=⟨[.pair x.start.toNat b],List.replicate N false,List.replicate x.cl (-1),0,none⟩:=by
    unfold begin_;rw [HST.out,HCP.out,HNL.out,HPLS.out,HN.out,Int.toNat_natCast]
   have hs0:=HS00.out
   rw [←hs0] at hbeg
   have hok0:Ok p t 0 s0:=by
    rw [hs0]
    exact Ok.start HX.out.chk (zzZ _) ⟨zzZ _,by rw [HTL.out];exact hb⟩ (by rw [List.length_replicate]) (by rw [List.length_replicate,List.count_replicate];simp)
   have hn0:Nn x (.slice (some ⟨wr.heap.size,0,none⟩) 1 1) s0 (wr.alloc (.cells #[.int .i64 x.start,.int .i64 (b:Int),.int .i64 0,.int .i64 0] 94)):=by
    have hown:=own_lit wr (x.C+1) 94 4 1 #[.int .i64 x.start,.int .i64 (b:Int),.int .i64 0,.int .i64 0] [.int .i64 x.start,.int .i64 (b:Int),.int .i64 0,.int .i64 0] HBC.out.lt rfl rfl (by decide)
    have hst0:0≤x.start:=HS0.out.1
    rw [hbeg]
    refine ⟨HBW.out.alloc HBW.out.size _,HBX.out.alloc _,HBM.out.alloc _,?_,?_⟩
    ·have:=HBC.out.alloc (.cells #[.int .i64 x.start,.int .i64 (b:Int),.int .i64 0,.int .i64 0] 94)
     simpa using this
    ·simpa [turnRow,turnVals,Int.toNat_of_nonneg hst0] using hown
   have HMN:=zzA hn0
   have HF0:=zzA (show s0.fin=none from by rw [hbeg])
   have HOK0:=zzA hok0
   clear hn0 hok0 hs0 hbeg c1 HBW HBX HBM HBC
   generalize wr.alloc (.cells #[.int .i64 x.start,.int .i64 (b:Int),.int .i64 0,.int .i64 0] 94)=w2 at *
   go_loopg [13] (meas s0) (fun m q wr=>∃ s,Ok p t 0 s∧s.fin=none∧meas s≤m∧(∃ j,s=iter p t 0 j s0)∧Nn x q s wr)
   case atStart=>exact ⟨s0,HOK0.out,HF0.out,zzF _,⟨0,rfl⟩,HMN.out⟩
   case round =>
    obtain ⟨s,hok,hf,hme,⟨j,hj⟩,hmn⟩:=hrel
    obtain ⟨LA,lc,rfl⟩:=own_shape hmn.own
    have hroom:=hok.room
    have hml:=hok.met
    have HMR:=zzA hmn
    have HF:=zzA hf
    have HOK:=zzA hok
    have HJ:=zzA hj
    match ht:s.todo with
    | [] =>
     rw [ht,List.length_nil] at hmn
     have HFIN:=zzA (show s=final p t 0 s0 from by
      have hh:halted (iter p t 0 j s0):=by rw [←hj];exact .inr ht
      rw [←final_of p t 0 hh,←hj])
     clear hok hf hj hmn hroom hml HOK HJ HX HS00 HOK0 HF0 hme
     simp only [ht,List.length_nil]
     have HT:=zzA ht
     clear ht
     go_wp2_with fail
     go_ret3
     rw [←HFIN.out]
     exact ⟨HMR.out.below,.inl ⟨HF.out,rfl⟩⟩
    | .back cc old :: r =>
     obtain ⟨g,lc2,hLV,hle,hcap,hg,hcells,hown⟩:=hmn.top ht
     rw [ht,zzO] at hroom
     have hrl:r.length≤100000000:=by
      have:unmet s≤s.met.length:=List.count_le_length
      have h1:s.met.length=N:=by rw [hml,HNL.out,HPLS.out,HN.out]
      omega
     have hjk:=hok.jobs _ (by rw [ht];exact zzH)
     have hnh:¬halted s:=by
      rintro (h | h)
      ·exact h hf
      ·rw [ht] at h;cases h
     have HLESS:=zzA (step_less p t 0 hnh)
     have HSTEP:=zzA (Ok.step HX.out.chk hok)
     have HCAPL:=zzA hok.caps
     have HT:=zzA ht
     rw [ht,zzO] at hLV
     injection hLV with e1 e2 e3
     subst e1 e3
     simp only [ht,zzO]
     have t0:=hcells 0 _ rfl
     have t1:=hcells 1 _ rfl
     have t2:=hcells 2 _ rfl
     have t3:=hcells 3 _ rfl
     rw [Nat.add_zero] at t0
     have HN1:=zzA ((hmn.cut hown).alloc (.cells #[.int .i64 0,.int .i64 0,.int .i64 ((cc:Int)+1),.int .i64 old] 94))
     have HTB:=zzA (Blk.new wr 94 [.int .i64 0,.int .i64 0,.int .i64 ((cc:Int)+1),.int .i64 old])
     have hcc:cc < x.cl:=by have:=hjk;simp only [JobOk,HCP.out,Int.toNat_natCast] at this;exact this
     have hcc2:(cc:Int) < (x.cl:Int):=by omega
     have hcl2:x.cl≤1002:=HCL.out.2
     have hpos:(0:Int) < (cc:Int)+1:=by omega
     have hcl3:s.caps.length=x.cl:=by have:=HCAPL.out;rw [HCP.out,Int.toNat_natCast] at this;exact this
     obtain ⟨z,hz⟩:∃ z,s.caps[cc]?=some z:=⟨_,zzJ (by omega)⟩
     have q1:(wr.alloc (.cells #[.int .i64 0,.int .i64 0,.int .i64 ((cc:Int)+1),.int .i64 old] 94)).cell? ⟨x.C,cc,none⟩=some (.int .i64 z):=by
      have:=HN1.out.capt.cell cc
      simp only [] at this
      rw [this,zza,hz];rfl
     have q2:(wr.alloc (.cells #[.int .i64 0,.int .i64 0,.int .i64 ((cc:Int)+1),.int .i64 old] 94)).frozen? ⟨x.C,cc,none⟩=false:=HN1.out.capt.frozen cc
     have q3:x.C < (wr.alloc (.cells #[.int .i64 0,.int .i64 0,.int .i64 ((cc:Int)+1),.int .i64 old] 94)).heap.size:=HN1.out.capt.lt
     have q4:=HTB.out.cell 2
     have q5:=HTB.out.cell 3
     simp only [zzX,zzR] at q4 q5
     clear hcl3 hz hok hf hj hmn ht hroom hml hcells hown hjk hnh HOK0 HF0
     go_wp2_with fail
     go_roundg (meas (mstep p t 0 s))
     case measure=>have:=HLESS.out;omega
     case rel =>
      refine ⟨_,HSTEP.out,?_,zzF _,⟨j+1,by rw [iter_succ',←HJ.out]⟩,?_⟩
      ·rw [mstep_back HF.out HT.out];exact HF.out
      ·rw [mstep_back HF.out HT.out]
       exact HN1.out.captured cc old
    | .pair i k :: r =>
     obtain ⟨g,lc2,hLV,hle,hcap,hg,hcells,hown⟩:=hmn.top ht
     rw [ht,zzO] at hroom
     have hrl:r.length≤100000000:=by
      have:unmet s≤s.met.length:=List.count_le_length
      have h1:s.met.length=N:=by rw [hml,HNL.out,HPLS.out,HN.out]
      omega
     have hjk:=hok.jobs _ (by rw [ht];exact zzH)
     have hnh:¬halted s:=by
      rintro (h | h)
      ·exact h hf
      ·rw [ht] at h;cases h
     have HLESS:=zzA (step_less p t 0 hnh)
     have HSTEP:=zzA (Ok.step HX.out.chk hok)
     have HCAPL:=zzA hok.caps
     have HT:=zzA ht
     rw [ht,zzO] at hLV
     injection hLV with e1 e2 e3
     subst e1 e3
     simp only [ht,zzO]
     have t0:=hcells 0 _ rfl
     have t1:=hcells 1 _ rfl
     have t2:=hcells 2 _ rfl
     have t3:=hcells 3 _ rfl
     rw [Nat.add_zero] at t0
     have HN1:=zzA ((hmn.cut hown).alloc (.cells #[.int .i64 (i:Int),.int .i64 (k:Int),.int .i64 0,.int .i64 0] 94))
     have HTB:=zzA (Blk.new wr 94 [.int .i64 (i:Int),.int .i64 (k:Int),.int .i64 0,.int .i64 0])
     obtain ⟨hik,-,hkl⟩:=hjk
     rw [HTL.out] at hkl
     rw [HNL.out] at hik
     obtain ⟨q,hq⟩:∃ q,q=bitOf t 0 i k:=⟨_,rfl⟩
     have hqe:q=i*pl+k:=by rw [hq];unfold bitOf;rw [HPLS.out];omega
     have hqN:q < N:=by
      have h1:(i+1)*pl≤x.n*pl:=Nat.mul_le_mul_right _ hik
      rw [HN.out,hqe]
      rw [Nat.add_mul,Nat.one_mul] at h1
      have:=HPL.out
      omega
     have hq1:(i:Int)*(pl:Int)+(k:Int)=(q:Int):=by rw [hqe];push_cast;rfl
     have hq0:0≤(i:Int)*(pl:Int):=Int.mul_nonneg (by omega) (by omega)
     have hq3:(i:Int)*(pl:Int)≤20020000:=by omega
     have hqi:(q:Int) < (N:Int):=by omega
     have hmN:s.met.length=N:=by rw [hml,HNL.out,HPLS.out,HN.out]
     have m1:(wr.alloc (.cells #[.int .i64 (i:Int),.int .i64 (k:Int),.int .i64 0,.int .i64 0] 94)).cell? ⟨x.M,q,none⟩=some (.bool (s.met.getD q true)):=by
      have:=HN1.out.met.cell q
      simp only [] at this
      rw [this,zza,List.getD_eq_getElem?_getD,zzJ (by omega)];rfl
     have m2:(wr.alloc (.cells #[.int .i64 (i:Int),.int .i64 (k:Int),.int .i64 0,.int .i64 0] 94)).frozen? ⟨x.M,q,none⟩=false:=HN1.out.met.frozen q
     have m3:x.M < (wr.alloc (.cells #[.int .i64 (i:Int),.int .i64 (k:Int),.int .i64 0,.int .i64 0] 94)).heap.size:=HN1.out.met.lt
     have q4:=HTB.out.cell 0
     have q5:=HTB.out.cell 1
     have q6:=HTB.out.cell 2
     simp only [zzX,zzR] at q4 q5 q6
     have HQ:=zzA hq
     have HIK:=zzA (show i < x.n∧k≤x.nt from ⟨hik,hkl⟩)
     clear hq hqe hmN hok hf hj hmn ht hroom hml hcells hown hnh HOK0 HF0
     cases hmm:s.met.getD q true with
     | true =>
      rw [hmm] at m1
      have HMM:=zzA hmm
      clear hmm
      go_wp2_with fail
      go_roundg (meas (mstep p t 0 s))
      case measure=>have:=HLESS.out;omega
      case rel =>
       refine ⟨_,HSTEP.out,?_,zzF _,⟨j+1,by rw [iter_succ',←HJ.out]⟩,?_⟩
       ·rw [mstep_met HF.out HT.out (by rw [←HQ.out];exact HMM.out)];exact HF.out
       ·rw [mstep_met HF.out HT.out (by rw [←HQ.out];exact HMM.out)]
        exact HN1.out
     | false =>
      rw [hmm] at m1
      have HMM:=zzA hmm
      have HN2:=zzA (HN1.out.marked q)
      have HTB2:=zzA (HTB.out.far (p:=⟨x.M,q,none⟩) (by have:=HN1.out.met.lt;have:=HN1.out.below.size;have h1:=HMR.out.met.lt;simp only [];omega) (.bool true))
      obtain ⟨v,hv⟩:∃ v,L[i]?=some v:=⟨_,zzJ (by have:=HX.out.rp.len;have:=HIK.out.1;omega)⟩
      obtain ⟨ab,ao,hA,hab⟩:=HX.out.rp.at_ (by have:=HIK.out.1;omega)
      have hrpw:=HX.out.rp.below HN2.out.below
      have b0:=HN2.out.box.cell 0
      have HAA:=zzA hA
      rw [hA] at hrpw b0
      simp only [zzR] at b0
      obtain ⟨i0,i1,i2,i3,i4⟩:=hrpw.cells hv
      have hin:(i:Int) < (x.n:Int):=by have:=HIK.out.1;omega
      have HRNG:=zzA ((hrpw.2 _ (zzL hv)).1)
      have HXI:=zzA (show p.insts[i]?=some v.I from by rw [HX.out.pi,insL,zza,hv];rfl)
      have HMAY:=zzA (may_of HX.out.chk HXI.out)
      have a4:=HTB2.out.cell 0
      simp only [zzR] at a4
      have HEQ:=zzA (mstep_pair (p:=p) (t:=t) (at_:=0) HF.out HT.out (by rw [←HQ.out];exact hmm) HXI.out)
      clear hmm hv hA hrpw hab
      obtain ⟨⟨op,ix,iy,iarg,irng⟩,iA,inn,ic⟩:=v
      simp only [] at HXI HMAY HEQ HRNG i0 i1 i2 i3 i4
      go_upto_region 17 with fail
      have hwm:((wr.alloc (.cells #[.int .i64 (i:Int),.int .i64 (k:Int),.int .i64 0,.int .i64 0] 94)).setCell ⟨x.M,q,none⟩ (.bool true)).heap.size=wr.heap.size+1:=by simp [World.setCell]
      have HN5:=zzA (HN2.out.alloc (.cells #[.int .i64 op,.int .i64 ix,.int .i64 iy,.int .i64 iarg,.slice iA inn ic] 51))
      have HT5:=zzA (HTB2.out.alloc (.cells #[.int .i64 op,.int .i64 ix,.int .i64 iy,.int .i64 iarg,.slice iA inn ic] 51))
      have HI5:=Blk.new ((wr.alloc (.cells #[.int .i64 (i:Int),.int .i64 (k:Int),.int .i64 0,.int .i64 0] 94)).setCell ⟨x.M,q,none⟩ (.bool true)) 51 [.int .i64 op,.int .i64 ix,.int .i64 iy,.int .i64 iarg,.slice iA inn ic]
      rw [hwm] at HI5
      have HI5:=zzA HI5
      have HR5:=zzA (HRNG.out.below (B:=x.w0.heap.size) (w':=(((wr.alloc (.cells #[.int .i64 (i:Int),.int .i64 (k:Int),.int .i64 0,.int .i64 0] 94)).setCell ⟨x.M,q,none⟩ (.bool true)).alloc (.cells #[.int .i64 op,.int .i64 ix,.int .i64 iy,.int .i64 iarg,.slice iA inn ic] 51))) ((zzb _ _).alloc (by rw [hwm];have:=HMR.out.below.size;omega) _))
      clear hwm q4 q5 q6 m1 m2 m3 t0 t1 t2 t3 b0 i0 i1 i2 i3 i4 a4 HRNG HN2 HTB2 HN1 HTB
      generalize (((wr.alloc (.cells #[.int .i64 (i:Int),.int .i64 (k:Int),.int .i64 0,.int .i64 0] 94)).setCell ⟨x.M,q,none⟩ (.bool true)).alloc (.cells #[.int .i64 op,.int .i64 ix,.int .i64 iy,.int .i64 iarg,.slice iA inn ic] 51))=w5 at *
      generalize wr.heap.size=tb at *
      have d0:=HT5.out.cell 1
      have d1:=HI5.out.cell 0
      have d2:=HI5.out.cell 1
      have d3:=HI5.out.cell 2
      have d4:=HI5.out.cell 3
      have d5:=HI5.out.cell 4
      simp only [zzX,zzR] at d0 d1 d2 d3 d4 d5
      have hkn1:(k:Int)≤1000:=by have:=HIK.out.2;omega
      obtain ⟨ii,hii,hz0,hz1,hz2⟩:=info_parts info_turn
      have hbs:∀ o:Obj,x.C+1≤(w5.alloc o).heap.size:=fun o=>by have:=HN5.out.capt.lt;simp;omega
      rcases op_cases HMAY.out with e | e | e | e | e | e | e
      ·simp only [] at e
       subst e
       have hix:0≤ix:=(may_x HMAY.out (.inl rfl)).1
       by_cases hkn:¬k < x.nt
       ·have hkn2:¬((k:Int) < (x.nt:Int)):=by omega
        have hkn3:decide ((k:Int) < (x.nt:Int))=false:=by simpa using hkn2
        go_upto_region 19 with fail
        go_quiet (fail)
        go_wp2_with fail
        go_roundg (meas (mstep p t 0 s))
        case measure=>have:=HLESS.out;omega
        case rel =>
         refine ⟨_,HSTEP.out,?_,zzF _,⟨j+1,by rw [iter_succ',←HJ.out]⟩,?_⟩
         ·rw [HEQ.out]
          rw [show eff t ⟨1,ix,iy,iarg,irng⟩ k { s with todo:=r,met:=s.met.set (bitOf t 0 i k) true,steps:=s.steps+1 }={ s with todo:=r,met:=s.met.set (bitOf t 0 i k) true,steps:=s.steps+1 } from by unfold eff;rw [if_pos rfl,if_neg];rintro ⟨h1,_⟩;rw [HTL.out] at h1;exact hkn h1]
          exact HF.out
         ·rw [HEQ.out]
          rw [show eff t ⟨1,ix,iy,iarg,irng⟩ k { s with todo:=r,met:=s.met.set (bitOf t 0 i k) true,steps:=s.steps+1 }={ s with todo:=r,met:=s.met.set (bitOf t 0 i k) true,steps:=s.steps+1 } from by unfold eff;rw [if_pos rfl,if_neg];rintro ⟨h1,_⟩;rw [HTL.out] at h1;exact hkn h1]
          exact (HN5.out.drewN nq).same (by rw [HQ.out]) rfl rfl
       replace hkn:=Decidable.not_not.1 hkn
       have hkn2:(k:Int) < (x.nt:Int):=by omega
       obtain ⟨tb2,to_,hTA,-⟩:=HX.out.rt.at_ (by omega)
       have hright:rightB irng=true:=may_rng HMAY.out rfl
       have ht0:w5.cell? ⟨tb2,to_+k,none⟩=some (.int .i64 (t.getD k 0)):=by
        have hr:=HX.out.rt.below HN5.out.below
        rw [hTA] at hr
        exact text_at hr hkn
       generalize hr0:t.getD k 0=r0 at *
       have HR0:=zzA hr0
       have HTA:=zzA hTA
       have HHAS:=zzA (fun n=>refHas_any iA inn ic _ r0 irng (w5.drewN n) (HR5.out.drewN n))
       clear hr0
       rw [hTA]
       clear hTA
       go_upto_region 19 with fail
       go_quiet (first | (go_at_call 40;refine (HHAS.out _).mono ?_;rintro e w3 ⟨he,m,hm⟩;exact ⟨he,_,by rw [←hm,World.drewN_drewN]⟩))
       rw [hright,Bool.true_and]
       have HN6:=zzA (HN5.out.drewN nq)
       have d0:(w5.drewN nq).cell? ⟨tb,1,none⟩=some (.int .i64 (k:Int)):=d0
       have d2:(w5.drewN nq).cell? ⟨tb+1,1,none⟩=some (.int .i64 ix):=d2
       have hbs:∀ o:Obj,x.C+1≤((w5.drewN nq).alloc o).heap.size:=fun o=>by have:=HN6.out.capt.lt;simp at this ⊢;omega
       clear ht0
       generalize w5.drewN nq=w7 at *
       cases hbm:memB irng r0 with
       | false =>
        go_wp2_with fail
        rw [←HTA.out]
        go_roundg (meas (mstep p t 0 s))
        case measure=>have:=HLESS.out;omega
        case rel =>
         refine ⟨_,HSTEP.out,?_,zzF _,⟨j+1,by rw [iter_succ',←HJ.out]⟩,?_⟩
         ·rw [HEQ.out]
          rw [show eff t ⟨1,ix,iy,iarg,irng⟩ k { s with todo:=r,met:=s.met.set (bitOf t 0 i k) true,steps:=s.steps+1 }={ s with todo:=r,met:=s.met.set (bitOf t 0 i k) true,steps:=s.steps+1 } from by unfold eff;rw [if_pos rfl,if_neg];rintro ⟨_,h1⟩;simp only [] at h1;rw [HR0.out,hbm] at h1;cases h1]
          exact HF.out
         ·rw [HEQ.out]
          rw [show eff t ⟨1,ix,iy,iarg,irng⟩ k { s with todo:=r,met:=s.met.set (bitOf t 0 i k) true,steps:=s.steps+1 }={ s with todo:=r,met:=s.met.set (bitOf t 0 i k) true,steps:=s.steps+1 } from by unfold eff;rw [if_pos rfl,if_neg];rintro ⟨_,h1⟩;simp only [] at h1;rw [HR0.out,hbm] at h1;cases h1]
          exact HN6.out.same (by rw [HQ.out]) rfl rfl
       | true =>
        go_wp2_with (at_builtin;refine wpList_append_lies _ rfl (.tmp 113) (.tmp 120) 95 rfl (x.C+1) 94 ii (.agg #[.int .i64 0,.int .i64 0,.int .i64 0,.int .i64 0]) 4 32 Try.underlying95 hii hz0 hz1 hz2 rfl (by decide) (.slice (some ⟨g,0,none⟩) r.length lc) r.length (turnRow r) rfl (own_below HN6.out.own ((zzb _ _).alloc (zzF _) _)) ⟨w7.heap.size,0,none⟩ 1 1 [.int .i64 ix,.int .i64 ((k:Int)+1),.int .i64 0,.int .i64 0] rfl rfl (new_at9 w7 _ [.int .i64 ix,.int .i64 ((k:Int)+1),.int .i64 0,.int .i64 0]) (by simp [Value.oneCell']) (by decide) (by unfold maxLen;omega) (by omega) (hbs _) _ rfl ?_;intro g2 cap2 w6 hou2 hg2 hat2 hlt2;have HOU:=zzA hou2;have HG2:=zzA hg2;clear hou2 hg2 hat2)
        have hrow:turnRow (.pair ix.toNat (k+1) :: r)=turnRow r++[.int .i64 ix,.int .i64 ((k:Int)+1),.int .i64 0,.int .i64 0]:=by
         rw [turnRow,turnVals,show ((ix.toNat:Nat):Int)=ix from by omega];push_cast;rfl
        have HNW:=zzA ((HN6.out.alloc (.cells #[.int .i64 ix,.int .i64 ((k:Int)+1),.int .i64 0,.int .i64 0] 94)).pushed HG2.out (l:=.pair ix.toNat (k+1) :: r) (by rw [hrow];exact HOU.out))
        rw [←HTA.out]
        go_roundg (meas (mstep p t 0 s))
        case measure=>have:=HLESS.out;omega
        case rel =>
         refine ⟨_,HSTEP.out,?_,zzF _,⟨j+1,by rw [iter_succ',←HJ.out]⟩,?_⟩
         ·rw [HEQ.out]
          rw [show eff t ⟨1,ix,iy,iarg,irng⟩ k { s with todo:=r,met:=s.met.set (bitOf t 0 i k) true,steps:=s.steps+1 }={ s with todo:=.pair ix.toNat (k+1) :: r,met:=s.met.set (bitOf t 0 i k) true,steps:=s.steps+1 } from by unfold eff;rw [if_pos rfl,if_pos ⟨by rw [HTL.out];exact hkn,by simp only [];rw [HR0.out];exact hbm⟩]]
          exact HF.out
         ·rw [HEQ.out]
          rw [show eff t ⟨1,ix,iy,iarg,irng⟩ k { s with todo:=r,met:=s.met.set (bitOf t 0 i k) true,steps:=s.steps+1 }={ s with todo:=.pair ix.toNat (k+1) :: r,met:=s.met.set (bitOf t 0 i k) true,steps:=s.steps+1 } from by unfold eff;rw [if_pos rfl,if_pos ⟨by rw [HTL.out];exact hkn,by simp only [];rw [HR0.out];exact hbm⟩]]
          exact HNW.out.same (by rw [HQ.out]) rfl rfl
      ·simp only [] at e
       subst e
       have hix:0≤ix:=(may_x HMAY.out (.inr (.inl rfl))).1
       have hiy:0≤iy:=(may_y HMAY.out rfl).1
       go_wp2_with (at_builtin;refine wpList_append_lies _ rfl (.tmp 124) (.tmp 135) 95 rfl (x.C+1) 94 ii (.agg #[.int .i64 0,.int .i64 0,.int .i64 0,.int .i64 0]) 4 32 Try.underlying95 hii hz0 hz1 hz2 rfl (by decide) (.slice (some ⟨g,0,none⟩) r.length lc) r.length (turnRow r) rfl (own_below HN5.out.own ((zzb _ _).alloc (zzF _) _)) ⟨w5.heap.size,0,none⟩ 2 2 [.int .i64 iy,.int .i64 (k:Int),.int .i64 0,.int .i64 0,.int .i64 ix,.int .i64 (k:Int),.int .i64 0,.int .i64 0] rfl rfl (new_at9 w5 _ [.int .i64 iy,.int .i64 (k:Int),.int .i64 0,.int .i64 0,.int .i64 ix,.int .i64 (k:Int),.int .i64 0,.int .i64 0]) (by simp [Value.oneCell']) (by decide) (by unfold maxLen;omega) (by omega) (hbs _) _ rfl ?_;intro g2 cap2 w6 hou2 hg2 hat2 hlt2;have HOU:=zzA hou2;have HG2:=zzA hg2;clear hou2 hg2 hat2)
       have hrow:turnRow (.pair ix.toNat k :: .pair iy.toNat k :: r)=turnRow r++[.int .i64 iy,.int .i64 (k:Int),.int .i64 0,.int .i64 0,.int .i64 ix,.int .i64 (k:Int),.int .i64 0,.int .i64 0]:=by
        rw [turnRow,turnRow,turnVals,turnVals,show ((ix.toNat:Nat):Int)=ix from by omega,show ((iy.toNat:Nat):Int)=iy from by omega,List.append_assoc];rfl
       have HNW:=zzA ((HN5.out.alloc (.cells #[.int .i64 iy,.int .i64 (k:Int),.int .i64 0,.int .i64 0,.int .i64 ix,.int .i64 (k:Int),.int .i64 0,.int .i64 0] 94)).pushed HG2.out (l:=.pair ix.toNat k :: .pair iy.toNat k :: r) (by rw [hrow];exact HOU.out))
       go_roundg (meas (mstep p t 0 s))
       case measure=>have:=HLESS.out;omega
       case rel =>
        refine ⟨_,HSTEP.out,?_,zzF _,⟨j+1,by rw [iter_succ',←HJ.out]⟩,?_⟩
        ·rw [HEQ.out]
         rw [show eff t ⟨2,ix,iy,iarg,irng⟩ k { s with todo:=r,met:=s.met.set (bitOf t 0 i k) true,steps:=s.steps+1 }={ s with todo:=.pair ix.toNat k :: .pair iy.toNat k :: r,met:=s.met.set (bitOf t 0 i k) true,steps:=s.steps+1 } from by simp [eff]]
         exact HF.out
        ·rw [HEQ.out]
         rw [show eff t ⟨2,ix,iy,iarg,irng⟩ k { s with todo:=r,met:=s.met.set (bitOf t 0 i k) true,steps:=s.steps+1 }={ s with todo:=.pair ix.toNat k :: .pair iy.toNat k :: r,met:=s.met.set (bitOf t 0 i k) true,steps:=s.steps+1 } from by simp [eff]]
         exact HNW.out.same (by rw [HQ.out]) rfl rfl
      ·simp only [] at e
       subst e
       have hix:0≤ix:=(may_x HMAY.out (.inr (.inr (.inl rfl)))).1
       have hga:=may_arg HMAY.out rfl
       simp only [HCP.out] at hga
       obtain ⟨ca,rfl⟩:∃ ca:Nat,iarg=(ca:Int):=⟨iarg.toNat,by omega⟩
       have hca:ca < x.cl:=by omega
       have hca2:(ca:Int) < (x.cl:Int):=by omega
       have hcl2:x.cl≤1002:=HCL.out.2
       have hcl3:s.caps.length=x.cl:=by have:=HCAPL.out;rw [HCP.out,Int.toNat_natCast] at this;exact this
       obtain ⟨z,hz⟩:∃ z,s.caps[ca]?=some z:=⟨_,zzJ (by omega)⟩
       have HZ:=zzA hz
       have hwc:IntKind.i64.wrap ((ca:Int)+1)=(ca:Int)+1:=by rw [IntKind.wrap_i64];omega
       have c1:w5.cell? ⟨x.C,ca,none⟩=some (.int .i64 z):=by
        have:=HN5.out.capt.cell ca
        simp only [] at this
        rw [this,zza,hz];rfl
       clear hz hga hcl3
       have f0:=(HT5.out.alloc (.cells #[.int .i64 0,.int .i64 0,.int .i64 ((ca:Int)+1),.int .i64 z,.int .i64 ix,.int .i64 (k:Int),.int .i64 0,.int .i64 0] 94)).cell 1
       have f2:=(HI5.out.alloc (.cells #[.int .i64 0,.int .i64 0,.int .i64 ((ca:Int)+1),.int .i64 z,.int .i64 ix,.int .i64 (k:Int),.int .i64 0,.int .i64 0] 94)).cell 1
       have f4:=(HI5.out.alloc (.cells #[.int .i64 0,.int .i64 0,.int .i64 ((ca:Int)+1),.int .i64 z,.int .i64 ix,.int .i64 (k:Int),.int .i64 0,.int .i64 0] 94)).cell 3
       have f5:(w5.alloc (.cells #[.int .i64 0,.int .i64 0,.int .i64 ((ca:Int)+1),.int .i64 z,.int .i64 ix,.int .i64 (k:Int),.int .i64 0,.int .i64 0] 94)).cell? ⟨x.C,ca,none⟩=some (.int .i64 z):=(World.cell?_alloc_lt w5 _ ⟨x.C,ca,none⟩ HN5.out.capt.lt).trans c1
       simp only [zzX,zzR] at f0 f2 f4
       have ho2:=own_below HN5.out.own ((zzb _ _).alloc (zzF _) (.cells #[.int .i64 0,.int .i64 0,.int .i64 ((ca:Int)+1),.int .i64 z,.int .i64 ix,.int .i64 (k:Int),.int .i64 0,.int .i64 0] 94))
       have hbs1:x.C+1≤(w5.alloc (.cells #[.int .i64 0,.int .i64 0,.int .i64 ((ca:Int)+1),.int .i64 z,.int .i64 ix,.int .i64 (k:Int),.int .i64 0,.int .i64 0] 94)).drew.heap.size:=hbs _
       go_upto_region 25 with fail
       go_region_held_law (fun u=>u.cell? ⟨tb,1,none⟩=some (.int .i64 (k:Int))∧u.cell? ⟨tb+1,1,none⟩=some (.int .i64 ix)∧u.cell? ⟨tb+1,3,none⟩=some (.int .i64 (ca:Int))∧u.cell? ⟨x.C,ca,none⟩=some (.int .i64 z)) (first | exact ⟨d0,d2,d4,c1⟩ | exact ⟨f0,f2,f4,f5⟩ | exact ⟨n0,n1,n2,n3⟩) (first
        | (refine step_append_lies _ rfl (.tmp 139) (.tmp 154) 95 rfl (x.C+1) 94 ii (.agg #[.int .i64 0,.int .i64 0,.int .i64 0,.int .i64 0]) 4 32 Try.underlying95 hii hz0 hz1 hz2 rfl (by decide) (.slice (some ⟨g,0,none⟩) r.length lc) r.length (turnRow r) rfl ho2.drew ⟨w5.heap.size,0,none⟩ 2 2 [.int .i64 0,.int .i64 0,.int .i64 ((ca:Int)+1),.int .i64 z,.int .i64 ix,.int .i64 (k:Int),.int .i64 0,.int .i64 0] rfl rfl (new_at9 w5 _ [.int .i64 0,.int .i64 0,.int .i64 ((ca:Int)+1),.int .i64 z,.int .i64 ix,.int .i64 (k:Int),.int .i64 0,.int .i64 0]) (by simp [Value.oneCell']) (by decide) (by unfold maxLen;omega) (by omega) hbs1 _ rfl ?_;intro g2 cap2 w6 hou2 hg2 hat2 hlt2;have HOU:=zzA hou2;have HG2:=zzA hg2;have n0:w6.cell? ⟨tb,1,none⟩=some (.int .i64 (k:Int)):=((HT5.out.alloc (.cells #[.int .i64 0,.int .i64 0,.int .i64 ((ca:Int)+1),.int .i64 z,.int .i64 ix,.int .i64 (k:Int),.int .i64 0,.int .i64 0] 94)).drew.grown HG2.out (by simp [Value.ownBlock];omega)).cell 1;have n1:w6.cell? ⟨tb+1,1,none⟩=some (.int .i64 ix):=((HI5.out.alloc (.cells #[.int .i64 0,.int .i64 0,.int .i64 ((ca:Int)+1),.int .i64 z,.int .i64 ix,.int .i64 (k:Int),.int .i64 0,.int .i64 0] 94)).drew.grown HG2.out (by simp [Value.ownBlock];omega)).cell 1;have n2:w6.cell? ⟨tb+1,3,none⟩=some (.int .i64 (ca:Int)):=((HI5.out.alloc (.cells #[.int .i64 0,.int .i64 0,.int .i64 ((ca:Int)+1),.int .i64 z,.int .i64 ix,.int .i64 (k:Int),.int .i64 0,.int .i64 0] 94)).drew.grown HG2.out (by simp [Value.ownBlock];omega)).cell 3;have n3:w6.cell? ⟨x.C,ca,none⟩=some (.int .i64 z):=((HN5.out.capt.alloc (.cells #[.int .i64 0,.int .i64 0,.int .i64 ((ca:Int)+1),.int .i64 z,.int .i64 ix,.int .i64 (k:Int),.int .i64 0,.int .i64 0] 94)).drew.grown HG2.out (fun e=>by have:=HN5.out.far _ e.symm;omega)).cell ca |>.trans (by rw [zza,HZ.out];rfl);clear hou2 hg2 hat2))
       all_goals
        have HT6:=zzA ((HT5.out.alloc (.cells #[.int .i64 0,.int .i64 0,.int .i64 ((ca:Int)+1),.int .i64 z,.int .i64 ix,.int .i64 (k:Int),.int .i64 0,.int .i64 0] 94)).drew.grown HG2.out (by simp [Value.ownBlock];omega))
        have HI6:=zzA ((HI5.out.alloc (.cells #[.int .i64 0,.int .i64 0,.int .i64 ((ca:Int)+1),.int .i64 z,.int .i64 ix,.int .i64 (k:Int),.int .i64 0,.int .i64 0] 94)).drew.grown HG2.out (by simp [Value.ownBlock];omega))
        have hrow:turnRow (.pair ix.toNat k :: .back ca z :: r)=turnRow r++[.int .i64 0,.int .i64 0,.int .i64 ((ca:Int)+1),.int .i64 z,.int .i64 ix,.int .i64 (k:Int),.int .i64 0,.int .i64 0]:=by
         rw [turnRow,turnRow,turnVals,turnVals,show ((ix.toNat:Nat):Int)=ix from by omega,List.append_assoc];rfl
        have HNW:=zzA (((HN5.out.alloc (.cells #[.int .i64 0,.int .i64 0,.int .i64 ((ca:Int)+1),.int .i64 z,.int .i64 ix,.int .i64 (k:Int),.int .i64 0,.int .i64 0] 94)).drewN 1).pushed HG2.out (l:=.pair ix.toNat k :: .back ca z :: r) (by rw [hrow];exact HOU.out))
        have k0:=HT6.out.cell 1
        have k1:=HI6.out.cell 3
        have k2:w6.cell? ⟨x.C,ca,none⟩=some (.int .i64 z):=by
         have:=HNW.out.capt.cell ca
         simp only [] at this
         rw [this,zza,HZ.out];rfl
        have k3:=HNW.out.capt.frozen ca
        have k4:=HNW.out.capt.lt
        simp only [zzX,zzR] at k0 k1
        clear f0 f2 f4 f5 c1 ho2 hbs1
        go_wp2_with fail
        go_roundg (meas (mstep p t 0 s))
        case measure=>have:=HLESS.out;omega
        case rel =>
         refine ⟨_,HSTEP.out,?_,zzF _,⟨j+1,by rw [iter_succ',←HJ.out]⟩,?_⟩
         ·rw [HEQ.out]
          rw [show eff t ⟨3,ix,iy,(ca:Int),irng⟩ k { s with todo:=r,met:=s.met.set (bitOf t 0 i k) true,steps:=s.steps+1 }={ s with todo:=.pair ix.toNat k :: .back ca z :: r,met:=s.met.set (bitOf t 0 i k) true,caps:=s.caps.set ca (k:Int),steps:=s.steps+1 } from by simp [eff,List.getD_eq_getElem?_getD,HZ.out]]
          exact HF.out
         ·rw [HEQ.out]
          rw [show eff t ⟨3,ix,iy,(ca:Int),irng⟩ k { s with todo:=r,met:=s.met.set (bitOf t 0 i k) true,steps:=s.steps+1 }={ s with todo:=.pair ix.toNat k :: .back ca z :: r,met:=s.met.set (bitOf t 0 i k) true,caps:=s.caps.set ca (k:Int),steps:=s.steps+1 } from by simp [eff,List.getD_eq_getElem?_getD,HZ.out]]
          exact (HNW.out.captured ca (k:Int)).same (by rw [HQ.out]) rfl rfl
      ·simp only [] at e
       subst e
       have hix:0≤ix:=(may_x HMAY.out (.inr (.inr (.inr (.inl rfl))))).1
       obtain ⟨j6,hj6,harg⟩:=may_as HMAY.out rfl
       simp only [] at harg
       have HAT:=zzA (fun n=>refAt_any x.At x.nt x.ct k x.w0.heap.size t (w5.drewN n) ((HX.out.rt.below HN5.out.below).drewN n) HIK.out.2)
       obtain ⟨z,hz,hz64⟩:∃ z:Nat,atBits t k=(z:Int)∧z < 64:=by have:=atBits_bd t k;exact ⟨(atBits t k).toNat,by omega,by omega⟩
       rw [hz] at HAT
       have hAS:=fun u=>refHolds_any j6 z hj6 hz64 u
       rw [←harg] at hAS
       have HZ:=zzA hz
       clear hz hz64 harg hj6
       cases hds:decide ((z:Int) / iarg % 2=1) with
       | false =>
        rw [hds] at hAS
        have HAS:=zzA hAS
        clear hAS
        go_upto_region 28 with fail
        go_quiet (first | (go_at_call 41;refine (HAT.out _).mono ?_;rintro e w' ⟨rfl,rfl⟩;exact ⟨rfl,_,rfl⟩) | (go_at_call 42;refine (HAS.out _).mono ?_;rintro e w' ⟨rfl,rfl⟩;exact ⟨rfl,_,rfl⟩))
        go_wp2_with fail
        go_roundg (meas (mstep p t 0 s))
        case measure=>have:=HLESS.out;omega
        case rel =>
         refine ⟨_,HSTEP.out,?_,zzF _,⟨j+1,by rw [iter_succ',←HJ.out]⟩,?_⟩
         ·rw [HEQ.out]
          rw [show eff t ⟨4,ix,iy,iarg,irng⟩ k { s with todo:=r,met:=s.met.set (bitOf t 0 i k) true,steps:=s.steps+1 }={ s with todo:=r,met:=s.met.set (bitOf t 0 i k) true,steps:=s.steps+1 } from by show (if asB t k iarg then _ else _)=_;rw [asB,HZ.out,hds];rfl]
          exact HF.out
         ·rw [HEQ.out]
          rw [show eff t ⟨4,ix,iy,iarg,irng⟩ k { s with todo:=r,met:=s.met.set (bitOf t 0 i k) true,steps:=s.steps+1 }={ s with todo:=r,met:=s.met.set (bitOf t 0 i k) true,steps:=s.steps+1 } from by show (if asB t k iarg then _ else _)=_;rw [asB,HZ.out,hds];rfl]
          exact (HN5.out.drewN nq).same (by rw [HQ.out]) rfl rfl
       | true =>
        rw [hds] at hAS
        have HAS:=zzA hAS
        clear hAS
        go_upto_region 28 with fail
        go_quiet (first | (go_at_call 41;refine (HAT.out _).mono ?_;rintro e w' ⟨rfl,rfl⟩;exact ⟨rfl,_,rfl⟩) | (go_at_call 42;refine (HAS.out _).mono ?_;rintro e w' ⟨rfl,rfl⟩;exact ⟨rfl,_,rfl⟩))
        have HN6:=zzA (HN5.out.drewN nq)
        have d0:(w5.drewN nq).cell? ⟨tb,1,none⟩=some (.int .i64 (k:Int)):=d0
        have d2:(w5.drewN nq).cell? ⟨tb+1,1,none⟩=some (.int .i64 ix):=d2
        have hbs:∀ o:Obj,x.C+1≤((w5.drewN nq).alloc o).heap.size:=fun o=>by have:=HN6.out.capt.lt;simp at this ⊢;omega
        generalize w5.drewN nq=w7 at *
        go_wp2_with (at_builtin;refine wpList_append_lies _ rfl (.tmp 172) (.tmp 178) 95 rfl (x.C+1) 94 ii (.agg #[.int .i64 0,.int .i64 0,.int .i64 0,.int .i64 0]) 4 32 Try.underlying95 hii hz0 hz1 hz2 rfl (by decide) (.slice (some ⟨g,0,none⟩) r.length lc) r.length (turnRow r) rfl (own_below HN6.out.own ((zzb _ _).alloc (zzF _) _)) ⟨w7.heap.size,0,none⟩ 1 1 [.int .i64 ix,.int .i64 (k:Int),.int .i64 0,.int .i64 0] rfl rfl (new_at9 w7 _ [.int .i64 ix,.int .i64 (k:Int),.int .i64 0,.int .i64 0]) (by simp [Value.oneCell']) (by decide) (by unfold maxLen;omega) (by omega) (hbs _) _ rfl ?_;intro g2 cap2 w6 hou2 hg2 hat2 hlt2;have HOU:=zzA hou2;have HG2:=zzA hg2;clear hou2 hg2 hat2)
        have hrow:turnRow (.pair ix.toNat k :: r)=turnRow r++[.int .i64 ix,.int .i64 (k:Int),.int .i64 0,.int .i64 0]:=by
         rw [turnRow,turnVals,show ((ix.toNat:Nat):Int)=ix from by omega]
        have HNW:=zzA ((HN6.out.alloc (.cells #[.int .i64 ix,.int .i64 (k:Int),.int .i64 0,.int .i64 0] 94)).pushed HG2.out (l:=.pair ix.toNat k :: r) (by rw [hrow];exact HOU.out))
        go_roundg (meas (mstep p t 0 s))
        case measure=>have:=HLESS.out;omega
        case rel =>
         refine ⟨_,HSTEP.out,?_,zzF _,⟨j+1,by rw [iter_succ',←HJ.out]⟩,?_⟩
         ·rw [HEQ.out]
          rw [show eff t ⟨4,ix,iy,iarg,irng⟩ k { s with todo:=r,met:=s.met.set (bitOf t 0 i k) true,steps:=s.steps+1 }={ s with todo:=.pair ix.toNat k :: r,met:=s.met.set (bitOf t 0 i k) true,steps:=s.steps+1 } from by show (if asB t k iarg then _ else _)=_;rw [asB,HZ.out,hds];rfl]
          exact HF.out
         ·rw [HEQ.out]
          rw [show eff t ⟨4,ix,iy,iarg,irng⟩ k { s with todo:=r,met:=s.met.set (bitOf t 0 i k) true,steps:=s.steps+1 }={ s with todo:=.pair ix.toNat k :: r,met:=s.met.set (bitOf t 0 i k) true,steps:=s.steps+1 } from by show (if asB t k iarg then _ else _)=_;rw [asB,HZ.out,hds];rfl]
          exact HNW.out.same (by rw [HQ.out]) rfl rfl
      ·simp only [] at e
       subst e
       have HFIN:=zzA (show mstep p t 0 s=final p t 0 s0 from by
        have hh:halted (iter p t 0 (j+1) s0):=by rw [iter_succ',←HJ.out,HEQ.out];exact .inl (by simp [eff])
        rw [←final_of p t 0 hh,iter_succ',←HJ.out])
       go_wp2_with fail
       go_ret3
       rw [←HFIN.out,HEQ.out]
       rw [show eff t ⟨5,ix,iy,iarg,irng⟩ k { s with todo:=r,met:=s.met.set (bitOf t 0 i k) true,steps:=s.steps+1 }={ s with todo:=r,met:=s.met.set (bitOf t 0 i k) true,steps:=s.steps+1,fin:=some iarg } from by simp [eff]]
       refine ⟨HN5.out.below,.inr ⟨iarg,rfl,?_,?_,?_⟩⟩
       ·have e:=HLO.out.2;rw [e];rfl
       ·rw [←HLO.out.2];exact HN5.out.capt
       ·have:=HCAPL.out;rw [HCP.out,Int.toNat_natCast] at this;exact this
      ·simp only [] at e
       subst e
       go_wp2_with fail
       go_roundg (meas (mstep p t 0 s))
       case measure=>have:=HLESS.out;omega
       case rel =>
        refine ⟨_,HSTEP.out,?_,zzF _,⟨j+1,by rw [iter_succ',←HJ.out]⟩,?_⟩
        ·rw [HEQ.out]
         rw [show eff t ⟨6,ix,iy,iarg,irng⟩ k { s with todo:=r,met:=s.met.set (bitOf t 0 i k) true,steps:=s.steps+1 }={ s with todo:=r,met:=s.met.set (bitOf t 0 i k) true,steps:=s.steps+1 } from by simp [eff]]
         exact HF.out
        ·rw [HEQ.out]
         rw [show eff t ⟨6,ix,iy,iarg,irng⟩ k { s with todo:=r,met:=s.met.set (bitOf t 0 i k) true,steps:=s.steps+1 }={ s with todo:=r,met:=s.met.set (bitOf t 0 i k) true,steps:=s.steps+1 } from by simp [eff]]
         exact HN5.out.same (by rw [HQ.out]) rfl rfl
      ·simp only [] at e
       subst e
       have hix:0≤ix:=(may_x HMAY.out (.inr (.inr (.inr (.inr rfl))))).1
       go_wp2_with (at_builtin;refine wpList_append_lies _ rfl (.tmp 182) (.tmp 188) 95 rfl (x.C+1) 94 ii (.agg #[.int .i64 0,.int .i64 0,.int .i64 0,.int .i64 0]) 4 32 Try.underlying95 hii hz0 hz1 hz2 rfl (by decide) (.slice (some ⟨g,0,none⟩) r.length lc) r.length (turnRow r) rfl (own_below HN5.out.own ((zzb _ _).alloc (zzF _) _)) ⟨w5.heap.size,0,none⟩ 1 1 [.int .i64 ix,.int .i64 (k:Int),.int .i64 0,.int .i64 0] rfl rfl (new_at9 w5 _ [.int .i64 ix,.int .i64 (k:Int),.int .i64 0,.int .i64 0]) (by simp [Value.oneCell']) (by decide) (by unfold maxLen;omega) (by omega) (hbs _) _ rfl ?_;intro g2 cap2 w6 hou2 hg2 hat2 hlt2;have HOU:=zzA hou2;have HG2:=zzA hg2;clear hou2 hg2 hat2)
       have hrow:turnRow (.pair ix.toNat k :: r)=turnRow r++[.int .i64 ix,.int .i64 (k:Int),.int .i64 0,.int .i64 0]:=by
        rw [turnRow,turnVals,show ((ix.toNat:Nat):Int)=ix from by omega]
       have HNW:=zzA ((HN5.out.alloc (.cells #[.int .i64 ix,.int .i64 (k:Int),.int .i64 0,.int .i64 0] 94)).pushed HG2.out (l:=.pair ix.toNat k :: r) (by rw [hrow];exact HOU.out))
       go_roundg (meas (mstep p t 0 s))
       case measure=>have:=HLESS.out;omega
       case rel =>
        refine ⟨_,HSTEP.out,?_,zzF _,⟨j+1,by rw [iter_succ',←HJ.out]⟩,?_⟩
        ·rw [HEQ.out]
         rw [show eff t ⟨7,ix,iy,iarg,irng⟩ k { s with todo:=r,met:=s.met.set (bitOf t 0 i k) true,steps:=s.steps+1 }={ s with todo:=.pair ix.toNat k :: r,met:=s.met.set (bitOf t 0 i k) true,steps:=s.steps+1 } from by simp [eff]]
         exact HF.out
        ·rw [HEQ.out]
         rw [show eff t ⟨7,ix,iy,iarg,irng⟩ k { s with todo:=r,met:=s.met.set (bitOf t 0 i k) true,steps:=s.steps+1 }={ s with todo:=.pair ix.toNat k :: r,met:=s.met.set (bitOf t 0 i k) true,steps:=s.steps+1 } from by simp [eff]]
         exact HNW.out.same (by rw [HQ.out]) rfl rfl
end Go.Proofs.Ytkhkllpdhnmhkaa
