/- Unfolded trees in memory, and rows of them that grow. -/
import Derived.Test.YtgkclnmmjedmkaaGreatP08
import Derived.Test.YtgkclnmmjedmkaaGreatP11
set_option maxRecDepth 100000
set_option maxHeartbeats 4000000
namespace Go.Proofs.YtgkclnmmjedmkaaGreat
open Go.RowKit
theorem enters0 {P:Program} {f:FuncId} {fn:Func} (h:P.funcs[f]?=some fn) (h1:(fn.name== "runtime.NumGoroutine")=false) (h2:fn.body.isNone=false):∀ args u,(callFunc f args).run P u=.ok (.enter f args) u:=by
 intro args u
 unfold callFunc
 have h1':¬(fn.name= "runtime.NumGoroutine"):=by simpa using h1
 have h2':¬(fn.body=none):=by intro e;rw [e] at h2;cases h2
 simp [go_sem,h,h1',h2']
theorem step_call {P:Program} {ops:Array Oper} {o:Oper} {a:Act} {w:World} {K:Act→World→Prop} {Q:Exit→Act→World→Prop} {E:Prop} (hgd:o.guard=none) (f:FuncId) (x:Operand) (t:TypeId)
  (ho:o.op=.call { callee:=.value (.func f),args:=#[x],argTypes:=#[t] }) (v:Value) (hx:a.eval x=v) (he:∀ args u,(callFunc f args).run P u=.ok (.enter f args) u)
  (h:Calls P f #[v] w fun e w'=>∃ r,e=.returned r∧K (a.put o.dst r) w'):if Region.wanted o (yielded ops a.tmps)=true then Oper.wp P o a w K Q else E:=by
 have hw:Region.wanted o (yielded ops a.tmps)=true:=by simp [Region.wanted,hgd]
 rw [if_pos hw]
 unfold Oper.wp
 have hrun:(execOp a.eval o).run P w=.ok (.enter f #[v]) w:=by
  obtain ⟨dst,op,type,pos,after,guard⟩:=o
  simp only [] at ho
  subst ho
  show (callFunc f (#[]++(#[x]:Array Operand).map a.eval++#[])).run P w=_
  rw [he,←hx]
  simp
 rw [hrun,Oper.upon_enter]
 refine h.mono ?_
 rintro e w' ⟨r,rfl,hk⟩
 exact hk
theorem step_callv {P:Program} {ops:Array Oper} {o:Oper} {a:Act} {w:World} {K:Act→World→Prop} {Q:Exit→Act→World→Prop} {E:Prop} (hgd:o.guard=none) (f:FuncId) (y:Operand) (xs:Array Operand) (ts:Array TypeId) (caps:Array Value)
  (ho:o.op=.call { callee:=.value y,args:=xs,argTypes:=ts }) (hy:a.eval y=.func (Fn.func f) #[] caps) (vs:Array Value) (hx:xs.map a.eval=vs) (he:∀ args u,(callFunc f args).run P u=.ok (.enter f args) u)
  (h:Calls P f (vs++caps) w fun e w'=>∃ r,e=.returned r∧K (a.put o.dst r) w'):if Region.wanted o (yielded ops a.tmps)=true then Oper.wp P o a w K Q else E:=by
 have hw:Region.wanted o (yielded ops a.tmps)=true:=by simp [Region.wanted,hgd]
 rw [if_pos hw]
 unfold Oper.wp
 have hrun:(execOp a.eval o).run P w=.ok (.enter f (vs++caps)) w:=by
  obtain ⟨dst,op,type,pos,after,guard⟩:=o
  simp only [] at ho
  subst ho
  simp only [execOp,resolve,hy,Sem.run_bind,hx]
  show (callFunc f (#[]++vs++caps)).run P w=_
  rw [he]
  simp
 rw [hrun,Oper.upon_enter]
 refine h.mono ?_
 rintro e w' ⟨r,rfl,hk⟩
 exact hk
def uptrs (l:List Mean.Un):List Value:=l.map fun s=>.pointer (some ⟨s.ad,0,none⟩)
structure UN (w:World) (S T:Nat→Prop) (n:Mean.Un) (ra:Option Addr) (rc:Nat) (sa:Option Addr) (sc:Nat):Prop where
 ad:T n.ad
 blk:Blk w n.ad 110 [.int .i64 n.kind,.slice ra n.rng.length rc,.int .i64 n.ast,.int .i64 n.ix,.bool n.lz,.slice sa n.subs.length sc]
 rng:RdA w S 2 ra n.rng.length rc (flat n.rng)
 subs:RdA w T 1 sa n.subs.length sc (uptrs n.subs)
structure UT (w:World) (S T:Nat→Prop) (u:Mean.Un):Prop where
 nodes:∀ n∈u.all,∃ ra rc sa sc,UN w S T n ra rc sa sc
 nodup:(u.all.map Mean.Un.ad).Nodup
section
variable {w w':World} {S S' T T':Nat→Prop} {n u:Mean.Un} {ra sa:Option Addr} {rc sc:Nat}
theorem UN.go (h:UN w S T n ra rc sa sc) (hS:∀ b,S b→w'.heap[b]?=w.heap[b]?) (hT:∀ b,T b→w'.heap[b]?=w.heap[b]?):UN w' S T n ra rc sa sc :=
 ⟨h.ad,(hT _ h.ad).trans h.blk,h.rng.go hS,h.subs.go hT⟩
theorem UN.mono (h:UN w S T n ra rc sa sc) (hS:∀ b,S b→S' b) (hT:∀ b,T b→T' b):UN w S' T' n ra rc sa sc :=
 ⟨hT _ h.ad,h.blk,h.rng.mono hS,h.subs.mono hT⟩
theorem UT.go (h:UT w S T u) (hS:∀ b,S b→w'.heap[b]?=w.heap[b]?) (hT:∀ b,T b→w'.heap[b]?=w.heap[b]?):UT w' S T u :=
 ⟨fun n hn=>by obtain ⟨ra,rc,sa,sc,hd⟩:=h.nodes n hn;exact ⟨ra,rc,sa,sc,hd.go hS hT⟩,h.nodup⟩
theorem UT.mono (h:UT w S T u) (hS:∀ b,S b→S' b) (hT:∀ b,T b→T' b):UT w S' T' u :=
 ⟨fun n hn=>by obtain ⟨ra,rc,sa,sc,hd⟩:=h.nodes n hn;exact ⟨ra,rc,sa,sc,hd.mono hS hT⟩,h.nodup⟩
theorem UT.mem (h:UT w S T u) {b:Nat} (hb:b∈u.all.map Mean.Un.ad):T b:=by
 obtain ⟨n,hn,rfl⟩:=zzp.1 hb
 obtain ⟨ra,rc,sa,sc,hd⟩:=h.nodes n hn
 exact hd.ad
end
section
variable {w w':World} {B B':Nat} {L L' M:List Nat} {u:Mean.Un} {S:Nat→Prop}
theorem UT.kept (h:UT w S (Fr B L w) u) (hS:∀ b,S b→w'.heap[b]?=w.heap[b]?) (k:Kept w w' M) (hM:∀ b∈M,b∈L∨w.heap.size≤b∨b < B) (hL:∀ b∈L',b∈L∨w.heap.size≤b∨b < B):UT w' S (Fr B L' w') u:=by
 refine (h.go hS fun b hb=>k.block b hb.2.1 fun hm=>?_).mono (fun b hb=>hb) fun b hb=>⟨hb.1,zzQ hb.2.1 k.size,fun hm=>?_⟩
 ·rcases hM b hm with e | e | e
  ·exact hb.2.2 e
  ·have:=hb.2.1;omega
  ·have:=hb.1;omega
 ·rcases hL b hm with e | e | e
  ·exact hb.2.2 e
  ·have:=hb.2.1;omega
  ·have:=hb.1;omega
theorem UT.below (h:UT w S (Fr B L w) u) (hS:∀ b,S b→b < w.heap.size) (k:Below w.heap.size w w'):UT w' S (Fr B L w') u :=
 h.kept (fun b hb=>k.block b (hS b hb)) (Kept.of_below (L:=[]) k) (by simp) (fun b hb=>.inl hb)
theorem UT.in_ (h:UT w S (Fr B' [] w) u) (hB:B≤B') (hL:∀ b∈L,b < B'):UT w S (Fr B L w) u :=
 h.mono (fun b hb=>hb) fun b hb=>⟨zzU hB hb.1,hb.2.1,fun hm=>by have:=hL b hm;have:=hb.1;omega⟩
end
structure RowU (w:World) (S:Nat→Prop) (B nb:Nat) (hd:List Value) (v:Value) (us:List Mean.Un):Prop where
 blk:Blk w nb 110 (hd++[v])
 own:w.ownsRow B 69 1 v us.length (uptrs us)
 els:∀ u∈us,UT w S (Fr B (nb :: v.ownBlock.toList) w) u
 nodup:((us.flatMap Mean.Un.all).map Mean.Un.ad).Nodup
 base:B≤w.heap.size
 sub:∀ b,S b→b < B∧b≠nb
section
variable {w w':World} {S:Nat→Prop} {B nb:Nat} {hd:List Value} {v:Value} {us:List Mean.Un}
theorem RowU.sep (h:RowU w S B nb hd v us):some nb≠v.ownBlock:=blk_apart h.own h.blk (by decide)
theorem RowU.later (h:RowU w S B nb hd v us) (hb:Below w.heap.size w w'):RowU w' S B nb hd v us :=
 ⟨h.blk.below hb h.blk.lt,own_below h.own hb,fun u hu=>(h.els u hu).below (fun b hb'=>zzQ (h.sub b hb').1 h.base) hb,h.nodup,zzU h.base hb.size,h.sub⟩
theorem RowU.lt (h:RowU w S B nb hd v us) {b:Nat} (hb:b∈(us.flatMap Mean.Un.all).map Mean.Un.ad):b < w.heap.size∧b≠nb:=by
 obtain ⟨n,hn,rfl⟩:=zzp.1 hb
 obtain ⟨u,hu,hn⟩:=zzs.1 hn
 have:=(h.els u hu).mem (zzp.2 ⟨n,hn,rfl⟩)
 exact ⟨this.2.1,fun e=>this.2.2 (by simp [e])⟩
theorem RowU.mut_ge (h:RowU w S B nb hd v us) {B0:Nat} (h0:B0≤B) (h1:B0≤nb):∀ b∈nb :: v.ownBlock.toList,B0≤b:=fun b hb=>by
 rcases zzN.1 hb with e | e
 ·rw [e];exact h1
 ·rcases h.own.2 with ⟨rfl,_⟩ | ⟨g,cap,cur,rfl,hg,_⟩
  ·simp [Value.ownBlock] at e
  ·obtain rfl:b=g:=by simpa [Value.ownBlock] using e
   omega
theorem RowU.own_ge (h:RowU w S B nb hd v us):∀ b∈v.ownBlock.toList,B≤b:=fun b e=>by
 rcases h.own.2 with ⟨rfl,_⟩ | ⟨g,cap,cur,rfl,hg,_⟩
 ·simp [Value.ownBlock] at e
 ·obtain rfl:b=g:=by simpa [Value.ownBlock] using e
  exact hg
theorem RowU.put {w1 w2 w3:World} {u:Mean.Un} {v':Value} {f5:hd.length=5} (h:RowU w S B nb hd v us) (hu:UT w1 S (Fr w.heap.size [] w1) u) (hb1:Below w.heap.size w w1)
  (hb2:Below w1.heap.size w1 w2) (ha:Appended B 69 1 v v' us.length 1 (uptrs us) (uptrs [u]) w2 w3) :
  RowU (w3.setCell ⟨nb,5,none⟩ v') S B nb hd v' (us++[u])∧Kept w (w3.setCell ⟨nb,5,none⟩ v') (nb :: v.ownBlock.toList)∧w.heap.size≤(w3.setCell ⟨nb,5,none⟩ v').heap.size:=by
 have h2:=h.later (hb1.trans (hb2.mono hb1.size))
 have hu2:UT w2 S (Fr w.heap.size [] w2) u:=hu.below (fun b hb=>zzQ (zzQ (h.sub b hb).1 h.base) hb1.size) hb2
 have hs2:w.heap.size≤w2.heap.size:=zzU hb1.size hb2.size
 have hbv:∀ b,v.ownBlock=some b→b < w.heap.size∧B≤b:=fun b hb=>by
  rcases h.own.2 with ⟨rfl,_⟩ | ⟨g,cap,cur,rfl,hg,hh,_⟩
  ·simp [Value.ownBlock] at hb
  ·obtain rfl:g=b:=by simpa [Value.ownBlock] using hb
   exact ⟨(Array.getElem?_eq_some_iff.1 hh).1,hg⟩
 have k3:Kept w2 w3 v.ownBlock.toList:=Kept.of_grown' ha.grown
 have k4:Kept w2 (w3.setCell ⟨nb,5,none⟩ v') (nb :: v.ownBlock.toList):=(k3.trans (zyG ⟨nb,5,none⟩ v')).more fun k hk=>by
  simp only [zzM,zzE] at hk
  rcases hk with hk | rfl
  ·exact .inl (zzI _ hk)
  ·exact .inl zzH
 have hnb3:Blk w3 nb 110 (hd++[v]):=h2.blk.grown ha.grown h2.sep
 have hnb4:Blk (w3.setCell ⟨nb,5,none⟩ v') nb 110 (hd++[v']):=by
  have:=hnb3.set_ 5 v'
  rwa [show (hd++[v]).set 5 v'=hd++[v'] from by rw [List.set_append_right _ _ (by omega),f5];rfl] at this
 have hap:∀ b,v'.ownBlock=some b→b≠nb:=fun b hb e=>blk_apart ha.own hnb3 (by decide) (by rw [hb,e])
 have hS:∀ b,S b→(w3.setCell ⟨nb,5,none⟩ v').heap[b]?=w2.heap[b]?:=fun b hb=>k4.block b (zzQ (zzQ (h.sub b hb).1 h.base) hs2) fun hm=>by
  have:=h.sub b hb
  rcases zzN.1 hm with e | e
  ·exact this.2 e
  ·have:=hbv b (by simpa using e);omega
 have hL:∀ b∈nb :: v'.ownBlock.toList,b∈nb :: v.ownBlock.toList∨w2.heap.size≤b∨b < B:=fun b hb=>by
  rcases zzN.1 hb with e | e
  ·exact .inl (by simp [e])
  ·rcases ha.at_ with e2 | e2
   ·rw [e2] at e;exact .inl (zzI _ e)
   ·rw [e2] at e
    simp only [Option.toList_some,zzE] at e
    exact .inr (.inl (by omega))
 refine ⟨⟨hnb4,?_,fun x hx=>?_,?_,zzU h2.base k4.size,h.sub⟩,?_,zzU hs2 k4.size⟩
 ·have:=own_kept ha.own (zyG (w:=w3) ⟨nb,5,none⟩ v') fun b hb hm=>hap b hb (by simpa using hm)
  rwa [show uptrs us++uptrs [u]=uptrs (us++[u]) from by simp [uptrs],show us.length+1=(us++[u]).length from by simp] at this
 ·rcases zzM.1 hx with hx | hx
  ·exact (h2.els x hx).kept hS k4 (fun b hb=>.inl hb) hL
  ·simp only [zzE] at hx
   subst hx
   have hin:UT w2 S (Fr B (nb :: v.ownBlock.toList) w2) x:=hu2.in_ h.base fun b hb=>by
    rcases zzN.1 hb with e | e
    ·rw [e];exact h.blk.lt
    ·exact (hbv b (by simpa using e)).1
   exact hin.kept hS k4 (fun b hb=>.inl hb) hL
 ·rw [List.flatMap_append,zzT]
  refine List.nodup_append.2 ⟨h.nodup,by simpa using hu.nodup,fun a ha' b hb e=>?_⟩
  have h3:=(h.lt ha').1
  have h4:=hu.mem (b:=b) (by simpa using hb)
  have:=h4.1
  omega
 ·refine (((Kept.of_below (L:=[]) (hb1.trans (hb2.mono hb1.size)))).trans k4).more fun k hk=>?_
  exact .inl (by simpa using hk)
theorem RowU.done {k:Int} {r:List (Int × Int)} {ra:Option Addr} {rc:Nat} {a i:Int} {z:Bool} {A:Option Addr} {c:Nat} (h:RowU w S B nb [.int .i64 k,.slice ra r.length rc,.int .i64 a,.int .i64 i,.bool z] (.slice A us.length c) us) (hr:RdA w S 2 ra r.length rc (flat r)) {B0:Nat} (h0:B0≤B) (h1:B0≤nb) :
  UT w S (Fr B0 [] w) (.mk nb k r a i z us):=by
 refine ⟨fun n hn=>?_,?_⟩
 ·rw [Mean.all_subs] at hn
  rcases zzN.1 hn with rfl | hn
  ·refine ⟨ra,rc,A,c,⟨h1,h.blk.lt,by simp⟩,h.blk,hr,?_⟩
   have ho:=h.own
   have hre:=Reads.of_own ho
   refine ⟨hre.le,hre.cap,hre.len,fun e=>?_,fun hn=>?_⟩
   ·subst e
    rcases ho.2 with ⟨h1,_⟩ | ⟨g,cap,cur,h1,_⟩
    ·exact (show us=[]∧c=0 by simpa using h1).2
    ·cases h1
   ·obtain ⟨g,rfl,-,hg1,hg2⟩:=own_form ho hn
    exact ⟨g,0,rfl,⟨zzU h0 hg1,hg2,by simp⟩,fun j x hx=>hre.cellAt hx⟩
  ·rw [Mean.allU_flat] at hn
   obtain ⟨u,hu,hn⟩:=zzs.1 hn
   obtain ⟨ra',rc',sa',sc',hd'⟩:=(h.els u hu).nodes n hn
   exact ⟨ra',rc',sa',sc',hd'.mono (fun b hb=>hb) fun b hb=>⟨zzU h0 hb.1,hb.2.1,by simp⟩⟩
 ·rw [Mean.all_subs,Mean.allU_flat,zzS]
  exact List.nodup_cons.2 ⟨fun hm=>(h.lt hm).2 rfl,h.nodup⟩
end
end Go.Proofs.YtgkclnmmjedmkaaGreat
namespace Go.Proofs.YtgkclnmmjedmkaaGreat
open Go.RowKit Tr
def asS (n:Int):ByteArray:=if (n==1)=true then ⟨#[92,65]⟩ else if (n==2)=true then ⟨#[92,122]⟩ else if (n==4)=true then ⟨#[94]⟩ else if (n==8)=true then ⟨#[36]⟩ else if (n==16)=true then ⟨#[92,98]⟩ else if (n==32)=true then ⟨#[92,66]⟩ else ⟨#[]⟩
theorem assertion_any (n:Int) (w:World) :
  Calls Tryz.prog 104 #[.int .i64 n] w fun e w'=>e=.returned (.string (asS n))∧w=w':=by
 go_enter Tryz.func104,Tryz.ntmps104
 go_wp2_with fail
 all_goals go_ret
 all_goals exact ⟨by simp only [asS, *];rfl,rfl⟩
theorem wordB (c:UInt8):word (wrap64 (c.toNat:Int))=(letterB c || digitB c):=by
 have h:=UInt8.toNat_lt c
 have e:wrap64 (c.toNat:Int)=(c.toNat:Int):=by unfold wrap64;omega
 rw [e]
 unfold word letterB digitB
 rw [Bool.eq_iff_iff]
 simp only [zzg,Bool.or_eq_true,zzc,zyE]
 omega
def wordsTo (s:ByteArray) (i:Nat):Bool:=(s.data.toList.take i).all fun c=>letterB c || digitB c
theorem words_step {s:ByteArray} {i:Nat} (h:i < s.size):wordsTo s (i+1)=(wordsTo s i && (letterB (s[i]'h) || digitB (s[i]'h))):=by
 unfold wordsTo
 rw [zyD,List.all_append]
 have e:s.data.toList[i]?=some (s[i]'h):=by
  rw [Array.getElem?_toList,Array.getElem?_eq_getElem h];rfl
 rw [e]
 simp
theorem words_no {s:ByteArray} {i:Nat} (h:wordsTo s i=false):nameB s=false:=by
 unfold nameB
 have:(s.data.toList.all fun c=>letterB c || digitB c)=false:=by
  cases hh:s.data.toList.all fun c=>letterB c || digitB c with
  | false=>rfl
  | true =>
   rw [←h];symm
   unfold wordsTo
   rw [List.all_eq_true] at hh ⊢
   exact fun c hc=>hh c (List.mem_of_mem_take hc)
 rw [this];simp
theorem name_end {s:ByteArray} (h:wordsTo s s.size=true):nameB s=(decide (1≤s.size) && (decide (s.size≤32) && !(digitB (s.data.toList.getD 0 0)))):=by
 unfold nameB
 have:(s.data.toList.all fun c=>letterB c || digitB c)=true:=by
  unfold wordsTo at h
  rwa [List.take_of_length_le (by rw [Array.length_toList];exact zzF _)] at h
 rw [this,Bool.and_true,Bool.and_assoc]
theorem name_head {s:ByteArray} (h:0 < s.size):s.data.toList.getD 0 0=s[0]'h:=by
 rw [zzf,Array.getElem?_toList,Array.getElem?_eq_getElem h];rfl
theorem name_any (s:ByteArray) (w:World) (hs:s.size≤1048576) :
  Calls Tryz.prog 105 #[.string s] w fun e w'=>e=.returned (.bool (nameB s))∧w=w':=by
 go_enter Tryz.func105,Tryz.ntmps105
 go_wp2_with fail
 go_loopw [6] (fun iv wr=>∃ i:Nat,i≤s.size∧iv=.int .i64 (i:Int)∧wordsTo s i=true∧wr=w) (fun iv _=>s.size - (intOf iv).toNat)
 case atStart=>exact ⟨0,zzZ _,rfl,by simp [wordsTo],rfl⟩
 case round =>
  obtain ⟨i,hi,rfl,ht,rfl⟩:=hrel
  have HT:=zzA ht
  clear ht
  by_cases hlt:i < s.size
  ·have hlt2:(i:Int) < (s.size:Int):=by omega
   have hst:=words_step hlt
   rw [HT.out,Bool.true_and,←wordB] at hst
   obtain ⟨b,hb⟩:∃ b,b=word (wrap64 ((s[i]'hlt).toNat:Int)):=⟨_,rfl⟩
   rw [←hb] at hst
   have HW:=zzA (word_any (wrap64 ((s[i]'hlt).toNat:Int)))
   rw [←hb] at HW
   clear hb
   have HST:=zzA hst
   clear hst
   cases b with
   | true =>
    go_wp2_with (go_at_call 106;refine (HW.out wr).mono ?_;rintro e w2 ⟨rfl,rfl⟩;simp only [])
    go_roundw
    case rel=>exact ⟨i+1,by omega,by go_num,HST.out,by trivial⟩
    case measure=>simp [intOf];omega
   | false =>
    go_wp2_with (go_at_call 106;refine (HW.out wr).mono ?_;rintro e w2 ⟨rfl,rfl⟩;simp only [])
    go_ret
    exact ⟨ret_bool (words_no HST.out).symm,rfl⟩
  ·obtain rfl:i=s.size:=by omega
   have hlt2:¬((s.size:Int) < (s.size:Int)):=by omega
   have hne:=name_end HT.out
   by_cases h1:s.size=0
   ·have h1a:¬((1:Int)≤(s.size:Int)):=by omega
    have e1:decide (1≤s.size)=false:=decide_eq_false (by omega)
    rw [e1,Bool.false_and] at hne
    have HNE:=zzA hne
    clear hne e1
    go_wp2_with fail
    go_ret
    exact ⟨ret_bool HNE.out.symm,rfl⟩
   ·have h1a:(1:Int)≤(s.size:Int):=by omega
    have e1:decide (1≤s.size)=true:=decide_eq_true (by omega)
    have hpos:0 < s.size:=by omega
    rw [e1,Bool.true_and,name_head hpos] at hne
    by_cases h2:s.size≤32
    ·have h2a:(s.size:Int)≤32:=by omega
     have e2:decide (s.size≤32)=true:=by simp;omega
     rw [e2,Bool.true_and] at hne
     have hc:=UInt8.toNat_lt (s[0]'hpos)
     have HNE:=zzA hne
     clear h1 h2 hne e1 e2
     go_wp2_with fail
     all_goals go_ret
     all_goals exact ⟨ret_bool (HNE.out.trans (by unfold digitB;rw [Bool.eq_iff_iff];simp;omega)).symm,rfl⟩
    ·have h2a:¬((s.size:Int)≤32):=by omega
     have e2:decide (s.size≤32)=false:=by simp;omega
     rw [e2,Bool.false_and] at hne
     have HNE:=zzA hne
     clear h1 h2 hne e1 e2
     go_wp2_with fail
     go_ret
     exact ⟨ret_bool HNE.out.symm,rfl⟩
theorem grt_snoc:∀ (a:List Tr.Tr) (t:Tr.Tr) (g:Int),greatests (a++[t]) g=max (greatests a g) (greatest t)
 | [],t,g=>by rw [zzn,greatests,greatests,greatests]
 | x :: a,t,g=>by rw [zzi,greatests,grt_snoc a,greatests]
theorem grt_any:∀ (t:Ta) (S:Nat→Prop) (w:World),RT w S t→(∀ b,S b→b < w.heap.size) →
  Calls Tryz.prog 23 #[t.val] w fun e w'=>e=.returned (.int .i64 (greatest t.tr))∧Below w.heap.size w w':=by
 intro t
 induction t using Ta.ind with
 | h t ih =>
  intro S w h hS
  cases t with
  | mk k r ra rc ast l sa sc mn mx z ix nm =>
   obtain ⟨⟨-,-,hll,-⟩,hN,hL⟩:=h.parts
   have IH:=zzA ih
   have HN:=zzA hN
   have HL:=zzA hL
   have HS:=zzA hS
   clear ih hL hS h
   simp only [Ta.val,Ta.vals,Ta.tr,greatest]
   have hb0:Below w.heap.size w (w.alloc (.cells #[.int .i64 k,.slice ra r.length rc,.int .i64 ast,.slice sa l.length sc,.int .i64 mn,.int .i64 mx,.bool z,.int .i64 ix,.string nm] 25)):=(zzb _ _).alloc (zzF _) _
   have hbl:=zyI w 25 [.int .i64 k,.slice ra r.length rc,.int .i64 ast,.slice sa l.length sc,.int .i64 mn,.int .i64 mx,.bool z,.int .i64 ix,.string nm]
   have hsc:=hN.1
   have hsc2:=hN.2.1
   have HB0:=zzA hb0
   have HBL:=zzA hbl
   clear hb0 hbl hN
   have k7:(w.alloc (.cells #[.int .i64 k,.slice ra r.length rc,.int .i64 ast,.slice sa l.length sc,.int .i64 mn,.int .i64 mx,.bool z,.int .i64 ix,.string nm] 25)).cell? ⟨w.heap.size,7,none⟩=some (.int .i64 ix):=HBL.out.cell 7
   have k3:(w.alloc (.cells #[.int .i64 k,.slice ra r.length rc,.int .i64 ast,.slice sa l.length sc,.int .i64 mn,.int .i64 mx,.bool z,.int .i64 ix,.string nm] 25)).cell? ⟨w.heap.size,3,none⟩=some (.slice sa l.length sc):=HBL.out.cell 3
   go_enter Tryz.func23,Tryz.ntmps23
   go_wp2_with fail
   generalize w.alloc (.cells #[.int .i64 k,.slice ra r.length rc,.int .i64 ast,.slice sa l.length sc,.int .i64 mn,.int .i64 mx,.bool z,.int .i64 ix,.string nm] 25)=w1 at *
   go_loopw [3,11] (fun lv iv wr=>∃ (i:Nat),i≤l.length∧iv=.int .i64 (i:Int)∧lv=.int .i64 (greatests (trs (l.take i)) ix)∧Below w1.heap.size w1 wr) (fun _ iv _=>l.length - (intOf iv).toNat)
   case atStart=>exact ⟨0,zzZ _,rfl,by rw [List.take_zero,trs,greatests],zzb _ _⟩
   case round =>
    obtain ⟨i,hi,rfl,rfl,hb⟩:=hrel
    have HB:=zzA hb
    clear hb
    by_cases hlt:i < l.length
    ·have hlt2:(i:Int) < (l.length:Int):=by omega
     obtain ⟨b,off,rfl,hSb,_⟩:=HN.out.2.2.2.2 (by omega)
     obtain ⟨u,hu⟩:∃ u,l[i]?=some u:=⟨_,zzJ hlt⟩
     have hum:u∈l:=zzL hu
     have hbb:=HS.out b hSb
     have hbw:=HB0.out.trans (HB.out.mono HB0.out.size)
     have hcell:∀ j,j < 9→wr.cell? ⟨b,off+i*9+j,none⟩=u.vals[j]?:=fun j hj=>by
      rw [zzy,←HN.out.node hu hj]
      exact hbw.cell (p:=⟨b,off+(i*9+j),none⟩) hbb
     have hba:Below wr.heap.size wr (wr.alloc (.cells u.vals.toArray 25)):=(zzb _ _).alloc (zzF _) _
     have hin:=IH.out u hum S (wr.alloc (.cells u.vals.toArray 25)) ((HL.out u hum).below HS.out (hbw.trans (hba.mono hbw.size))) (fun b hb=>zzQ (HS.out b hb) (zzU hbw.size hba.size))
     have HST:=zzA (show greatests (trs (l.take (i+1))) ix=max (greatests (trs (l.take i)) ix) (greatest u.tr) from by rw [zyD,hu,trs_map,trs_map,zzT];exact grt_snoc _ _ _)
     have HBA:=zzA hba
     have HUB:=zzA (zyI wr 25 u.vals)
     generalize greatest u.tr=gu at *
     generalize greatests (trs (l.take i)) ix=gq at *
     cases u with
     | mk k' r' ra' rc' a' l' sa' sc' n' m' z' i' s' =>
     simp only [Ta.vals] at hcell HBA HUB
     simp only [Ta.val,Ta.vals] at hin
     have c0:=hcell 0 (by omega)
     have c1':=hcell 1 (by omega)
     have c2':=hcell 2 (by omega)
     have c3:=hcell 3 (by omega)
     have c4:=hcell 4 (by omega)
     have c5:=hcell 5 (by omega)
     have c6:=hcell 6 (by omega)
     have c7:=hcell 7 (by omega)
     have c8:=hcell 8 (by omega)
     simp only [zzR,zzX,Nat.add_zero] at c0 c1' c2' c3 c4 c5 c6 c7 c8
     have HIN:=zzA hin
     clear hin hcell hu hba hbw hum
     go_wp2_with (go_at_call 23;refine HIN.out.mono ?_;rintro e w2 ⟨rfl,hb2⟩;have HB2:=zzA hb2;clear hb2;simp only [])
     go_roundw
     case rel =>
      exact ⟨i+1,by omega,by go_num,by rw [HST.out];exact congrArg (Value.int .i64) (by show (if gq < gu then gu else gq)=max gq gu;omega),HB.out.trans ((HBA.out.trans (HB2.out.mono HBA.out.size)).mono HB.out.size)⟩
     case measure=>simp [intOf];omega
    ·obtain rfl:i=l.length:=by omega
     have hlt2:¬((l.length:Int) < (l.length:Int)):=by omega
     go_wp2_with fail
     go_ret
     exact ⟨rfl,HB0.out.trans (HB.out.mono HB0.out.size)⟩
end Go.Proofs.YtgkclnmmjedmkaaGreat
namespace Go.Proofs.YtgkclnmmjedmkaaGreat
open Go.RowKit Mach
theorem check_any (A:Option Addr) (n c:Nat) (L:List InV) (start caps:Int) (w:World) (hr:ReadsP w w.heap.size A n c L) :
  Calls Tryz.prog 34 #[.agg #[.slice A n c,.int .i64 start,.int .i64 caps]] w fun e w'=>e=.returned (.int .i64 (chkE ⟨insL L,start,caps⟩))∧Below w.heap.size w w':=by
 obtain ⟨B,hB⟩:∃ B,B=w.heap.size:=⟨_,rfl⟩
 rw [←hB] at hr
 rw [←hB]
 have hBs:B≤w.heap.size:=by omega
 have hlen:=hr.len
 have HLEN:=zzA hlen
 have hnc:=hr.1.le
 have hcap:=hr.1.cap
 have HR:=zzA hr
 have hbe:Below B w (w.alloc (.cells #[.slice A n c,.int .i64 start,.int .i64 caps] 32)):=(zzb _ _).alloc hBs _
 have HNO:=zzA (show headB n start caps=false→chkE ⟨insL L,start,caps⟩=90 from fun h=>by
  unfold chkE checkB insL;simp only [zzP,hlen,h,Bool.false_and];rfl)
 clear hlen hr hB
 by_cases h1:n < 1
 ·have HF:=zzA (HNO.out (by unfold headB;simp;omega))
  go_enter Tryz.func34,Tryz.ntmps34
  go_wp2_with fail
  go_ret
  exact ⟨ret_int HF.out.symm,hbe⟩
 by_cases h2:20000 < n
 ·have HF:=zzA (HNO.out (by unfold headB;simp;omega))
  go_enter Tryz.func34,Tryz.ntmps34
  go_wp2_with fail
  go_ret
  exact ⟨ret_int HF.out.symm,hbe⟩
 by_cases h3:start < 0
 ·have HF:=zzA (HNO.out (by unfold headB;simp;omega))
  go_enter Tryz.func34,Tryz.ntmps34
  go_wp2_with fail
  go_ret
  exact ⟨ret_int HF.out.symm,hbe⟩
 by_cases h4:(n:Int)≤start
 ·have HF:=zzA (HNO.out (by unfold headB;simp;omega))
  go_enter Tryz.func34,Tryz.ntmps34
  go_wp2_with fail
  go_ret
  exact ⟨ret_int HF.out.symm,hbe⟩
 by_cases h5:caps < 2
 ·have HF:=zzA (HNO.out (by unfold headB;simp;omega))
  go_enter Tryz.func34,Tryz.ntmps34
  go_wp2_with fail
  all_goals go_ret
  all_goals exact ⟨ret_int HF.out.symm,hbe⟩
 by_cases h6:1002 < caps
 ·have HF:=zzA (HNO.out (by unfold headB;simp;omega))
  go_enter Tryz.func34,Tryz.ntmps34
  go_wp2_with fail
  all_goals go_ret
  all_goals exact ⟨ret_int HF.out.symm,hbe⟩
 by_cases h7:caps % 2=0
 case neg =>
  have HF:=zzA (HNO.out (by unfold headB;simp;omega))
  have h8:(caps % 2 != 0)=true:=by rw [bne_iff_ne];exact h7
  have h9:(caps % 2==1)=true:=by rw [zyE];omega
  have H7:=zzA h7
  clear h7
  go_enter Tryz.func34,Tryz.ntmps34
  go_wp2_with fail
  go_ret
  exact ⟨ret_int HF.out.symm,hbe⟩
 have h8:(caps % 2 != 0)=false:=by rw [bne_eq_false_iff_eq];exact h7
 have h9:(caps % 2==1)=false:=by rw [zzh];omega
 have HH:=zzA (show headB n start caps=true from by unfold headB;simp;omega)
 have HALL:=zzA (show checkB ⟨insL L,start,caps⟩=(insL L).all fun i=>mayB i n caps from by
  unfold checkB;simp only [insL,zzP];rw [HLEN.out,HH.out,Bool.true_and])
 have H7:=zzA h7
 have hnn:(1:Int)≤n:=by omega
 clear HNO h7
 have hbx1:(w.alloc (.cells #[.slice A n c,.int .i64 start,.int .i64 caps] 32)).cell? ⟨w.heap.size,2,none⟩=some (.int .i64 caps):=(zyI w _ [.slice A n c,.int .i64 start,.int .i64 caps]).cell 2
 have hbx0:(w.alloc (.cells #[.slice A n c,.int .i64 start,.int .i64 caps] 32)).cell? ⟨w.heap.size,0,none⟩=some (.slice A n c):=(zyI w _ [.slice A n c,.int .i64 start,.int .i64 caps]).cell 0
 have hrb:ReadsP (w.alloc (.cells #[.slice A n c,.int .i64 start,.int .i64 caps] 32)) B A n c L:=HR.out.below hbe
 have HRB:=zzA hrb
 have HBX:=zzA hbx1
 have HBX0:=zzA hbx0
 clear hbx1 hbx0 hrb HR
 obtain ⟨W0,hW0⟩:∃ W0,W0=w.alloc (.cells #[.slice A n c,.int .i64 start,.int .i64 caps] 32):=⟨_,rfl⟩
 rw [←hW0] at hbe HRB HBX HBX0
 have hsz:W0.heap.size=w.heap.size+1:=by rw [hW0];simp
 have HSZ:=zzA hsz
 have HW0:=zzA hW0
 clear hsz hW0
 go_enter Tryz.func34,Tryz.ntmps34
 go_wp2_with fail
 rw [←HW0.out]
 go_loopw [45] (fun p wr=>∃ i:Nat,i≤n∧p=.int .i64 i∧(∀ v∈L.take i,mayB v.I n caps=true)∧Below W0.heap.size W0 wr) (fun p _=>n - (intOf p).toNat)
 case atStart=>exact ⟨0,zzZ _,rfl,by simp,zzb _ _⟩
 case round =>
  obtain ⟨i,hi1,rfl,hok,hbel⟩:=hrel
  have HOK:=zzA hok
  have hszr:=hbel.size
  have hbB:Below B w wr:=hbe.trans (hbel.mono (by rw [HSZ.out];omega))
  clear hok
  have hq2:wr.cell? ⟨w.heap.size,2,none⟩=some (.int .i64 caps):=(hbel.cell (p:=⟨w.heap.size,2,none⟩) (by rw [HSZ.out];simp)).trans HBX.out
  have hq0:wr.cell? ⟨w.heap.size,0,none⟩=some (.slice A n c):=(hbel.cell (p:=⟨w.heap.size,0,none⟩) (by rw [HSZ.out];simp)).trans HBX0.out
  by_cases hlt:i < n
  ·obtain ⟨v,hv⟩:∃ v,L[i]?=some v:=⟨_,zzJ (by have:=HLEN.out;omega)⟩
   obtain ⟨b,off,rfl,hb⟩:=HRB.out.at_ (by omega)
   have hrw:ReadsP wr W0.heap.size (some ⟨b,off,none⟩) n c L:=(HRB.out.more (by rw [HSZ.out];omega)).below hbel
   have hrv:=(hrw.2 v (zzL hv)).1
   obtain ⟨hc0,hc1,hc2,hc3,hc4⟩:=hrw.cells hv
   have HV:=zzA hv
   have HSTEP:=zzA (show mayB v.I n caps=true→∀ u∈L.take (i+1),mayB u.I n caps=true from fun h u hu=>by
    rw [zyD,HV.out] at hu
    simp only [Option.toList_some,zzM,zzE] at hu
    rcases hu with hu | rfl
    ·exact HOK.out u hu
    ·exact h)
   have HBAD:=zzA (show mayB v.I n caps=false→chkE ⟨insL L,start,caps⟩=90 from fun h=>by
    unfold chkE
    rw [HALL.out]
    have:(insL L).all (fun i=>mayB i n caps)=false:=by
     rw [List.all_eq_false]
     exact ⟨v.I,by unfold insL;exact zzp.2 ⟨v,zzL HV.out,rfl⟩,by simp [h]⟩
    rw [this];rfl)
   have HRV:=zzA hrv
   clear hv hrv hrw
   obtain ⟨⟨op,x,y,arg,rng⟩,vA,vn,vc⟩:=v
   simp only [] at hc0 hc1 hc2 hc3 hc4 HBAD HSTEP HRV
   have hbel1:=hbel.alloc hszr (.cells #[.int .i64 op,.int .i64 x,.int .i64 y,.int .i64 arg,.slice vA vn vc] 62)
   have hs1:W0.heap.size≤(wr.alloc (.cells #[.int .i64 op,.int .i64 x,.int .i64 y,.int .i64 arg,.slice vA vn vc] 62)).heap.size:=zzU hszr (by simp)
   have hbq:w.heap.size < wr.heap.size:=by have:=HSZ.out;omega
   have HM:=zzA (may_any ⟨op,x,y,arg,rng⟩ vA vn vc n caps (wr.alloc (.cells #[.int .i64 op,.int .i64 x,.int .i64 y,.int .i64 arg,.slice vA vn vc] 62)) (((HRV.out.alloc hszr _)).more hs1))
   have HBB:=zzA hbB
   cases hm:mayB ⟨op,x,y,arg,rng⟩ n caps with
   | false =>
    go_wp2_with (go_at_call 59;refine HM.out.mono ?_;rintro e w2 ⟨rfl,hb2⟩;rw [hm])
    go_ret
    exact ⟨ret_int (HBAD.out hm).symm,HBB.out.trans (((zzb _ _).alloc (by omega) _).trans (hb2.mono (by simp;omega)))⟩
   | true =>
    go_wp2_with (go_at_call 59;refine HM.out.mono ?_;rintro e w2 ⟨rfl,hb2⟩;rw [hm])
    go_roundw
    case rel=>exact ⟨i+1,by omega,by go_num,HSTEP.out hm,hbel1.trans (hb2.mono hs1)⟩
    case measure=>simp [intOf];omega
  ·obtain rfl:i=n:=by omega
   have HT:=zzA (show chkE ⟨insL L,start,caps⟩=0 from by
    unfold chkE
    rw [HALL.out]
    have:(insL L).all (fun x=>mayB x i caps)=true:=by
     rw [List.all_eq_true]
     intro x hx
     obtain ⟨v,hv,rfl⟩:=zzp.1 hx
     exact HOK.out v (by rw [List.take_of_length_le (by have:=HLEN.out;omega)];exact hv)
    rw [this];rfl)
   go_wp2_with fail
   go_ret
   exact ⟨ret_int HT.out.symm,hbB⟩
end Go.Proofs.YtgkclnmmjedmkaaGreat
namespace Go.Proofs.YtgkclnmmjedmkaaGreat
open Mach
namespace Mean
def clean (a:Nat):Kt→Prop
 | .top=>True
 | .row l K=>(∀ s∈l,s.ad≠a)∧clean a K
 | .grp _ K=>clean a K
 | .dec _ K=>clean a K
def TC (a:Nat):Task→Prop
 | .beg _ _ _ K=>clean a K
 | .dcd _ _ _ K=>clean a K
 | .go K _ _=>clean a K
def isC (a:Nat):Task→Prop
 | .beg n _ _ _=>n.ad=a
 | _=>False
def isCp (a pl:Nat):Task→Prop
 | .beg n q _ _=>n.ad=a∧q=pl
 | _=>False
def imgA (a:Nat) (c:Un):Task→List FTask
 | .beg n pl nt K=>(rmN a n).map fun x=>.beg x pl nt (rmF a (pcs K))
 | k=>[rmT a (frT k)]
section
variable {t:List Int} {at_:Nat} {a:Nat} {P:Un→Kt→Prop}
theorem clean_rowT {l:List Un} {pl:Nat} {nt:List Int} {K:Kt} (hl:∀ s∈l,s.ad≠a) (hK:clean a K):TC a (rowT l pl nt K)∧¬isC a (rowT l pl nt K):=by
 cases l with
 | nil=>exact ⟨hK,fun h=>h⟩
 | cons s l=>exact ⟨⟨fun x hx=>hl x (zzI _ hx),hK⟩,fun h=>hl s zzH h⟩
theorem clean_choose {n:Un} (hn:∀ s∈n.subs,s.ad≠a) {pl:Nat} {nt:List Int} {A K:Kt} (hA:clean a A) (hK:clean a K):∀ x∈choose n pl nt A K,TC a x∧¬isC a x:=by
 unfold choose
 intro k hk
 cases hs:n.subs with
 | nil=>rw [hs] at hk;cases hk
 | cons s l =>
  rw [hs] at hk
  have h1:=hn s (by rw [hs];exact zzH)
  simp only [] at hk
  split at hk <;> (simp only [zzN,zyA,or_false] at hk;rcases hk with rfl | rfl)
  ·exact ⟨hK,fun h=>h⟩
  ·exact ⟨hA,h1⟩
  ·exact ⟨hA,h1⟩
  ·exact ⟨hK,fun h=>h⟩
theorem clean_first {n:Un} (hn:∀ s∈n.subs,s.ad≠a) {pl:Nat} {nt:List Int} {K:Kt} (hK:clean a K):∀ x∈first t n pl nt K,TC a x∧¬isC a x:=by
 unfold first
 intro k hk
 split at hk
 ·simp only [zzE] at hk;subst hk;exact ⟨hK,fun h=>h⟩
 split at hk
 ·split at hk
  ·simp only [zzE] at hk;subst hk;exact ⟨hK,fun h=>h⟩
  ·cases hk
 split at hk
 ·split at hk
  ·simp only [zzE] at hk;subst hk;exact ⟨hK,fun h=>h⟩
  ·cases hk
 split at hk
 ·simp only [zzE] at hk;subst hk;exact clean_rowT hn hK
 split at hk
 ·obtain ⟨s,hs,rfl⟩:=zzp.1 hk
  exact ⟨hK,hn s hs⟩
 split at hk
 ·split at hk
  ·cases hk
  ·rename_i s l hs
   simp only [zzE] at hk;subst hk
   exact ⟨hK,hn s (by rw [hs];exact zzH)⟩
 split at hk
 ·exact clean_choose hn hK hK k hk
 split at hk
 ·simp only [zzE] at hk;subst hk;exact ⟨hK,fun h=>h⟩
 split at hk
 ·split at hk
  ·cases hk
  ·rename_i s l hs
   simp only [zzE] at hk;subst hk
   exact ⟨hK,hn s (by rw [hs];exact zzH)⟩
 ·cases hk
theorem clean_go {s:St} {K:Kt} {pl:Nat} {nt:List Int} (hK:clean a K):∀ x∈(work t at_ s (.go K pl nt)).2,TC a x∧¬isC a x:=by
 intro x hx
 cases K with
 | top=>cases hx
 | row l K =>
  have e:x=rowT l pl nt K:=by simpa [work] using hx
  rw [e];exact clean_rowT hK.1 hK.2
 | grp i K =>
  have e:x=.go K pl (nt.set (2*i+1).toNat pl):=by simpa [work] using hx
  rw [e];exact ⟨hK,fun h=>h⟩
 | dec n K =>
  have e:x=.dcd n pl nt K:=by simpa [work] using hx
  rw [e];exact ⟨hK,fun h=>h⟩
theorem imgA_one {c:Un} {k:Task} (h:¬isC a k):imgA a c k=[rmT a (frT k)]:=by
 cases k with
 | beg n pl nt K =>
  have h':n.ad≠a:=h
  show (rmN a n).map _=[rmT a (.beg n pl nt (pcs K))]
  rw [rmT_one (rmN_other h'),rmN_other h'];rfl
 | dcd n pl nt K=>rfl
 | go K pl nt=>rfl
theorem imgA_map {c:Un}:∀ {l:List Task},(∀ x∈l,¬isC a x)→l.flatMap (imgA a c)=l.map fun x=>rmT a (frT x)
 | [],_=>rfl
 | x :: l,h=>by
  rw [zzl,imgA_one (h x zzH),imgA_map fun y hy=>h y (zzI _ hy)];rfl
theorem imgA_alt {c:Un} (pl:Nat) (nt:List Int) (K:Kt):∀ l:List Un,(l.map fun s=>Task.beg s pl nt K).flatMap (imgA a c)=(rmL a l).map fun x=>.beg x pl nt (rmF a (pcs K))
 | []=>rfl
 | s :: l=>by
  rw [zzS,zzl,imgA_alt pl nt K l,rmL,zzT];rfl
theorem manyF_append:∀ {s s1 s2:St} {l m:List FTask},ManyF t at_ s l s1→ManyF t at_ s1 m s2→ManyF t at_ s (l++m) s2
 | _,_,_,[],_,.nil,g=>g
 | _,_,_,_ :: _,_,.cons h1 h2,g=>.cons h1 (manyF_append h2 g)
def EI (a b:Nat) (s:St):Prop:=∀ pl,s.met (a,pl,false)≠0→s.met (b,pl,false)≠0
theorem EI.mark {b:Nat} {s:St} (h:EI a b s) {m:Mark} (hm:∀ pl,m≠(a,pl,false)):EI a b (s.mark m):=fun pl hp=>by
 rw [met_other (fun e=>hm pl e.symm)] at hp
 exact met_mark (h pl hp)
theorem grows_ne {s s':St} (h:Grows s s') {m:Mark} (hm:s.met m≠0):s'.met m≠0:=by
 have:=h.met m (by omega)
 omega
variable {c p:Un} {Kp:Kt}
mutual
theorem ea_one (hP:Place t P) (hc:P c Kp) (hp:P p Kp) (hc5:c.kind=5) (hp5:p.kind=5) (hpc:p.ad≠c.ad) (hnd:(p.subs.map Un.ad).Nodup) (hcc:∀ x∈c.subs,x.ad≠c.ad) (hpar:∀ n K,P n K→n.ad≠p.ad→∀ s∈n.subs,s.ad≠c.ad) :
  ∀ {s s1:St} {k:Task},One t at_ s k s1→TSt P k→TC c.ad k→∀ {s':St},RmR c.ad s s'→EI c.ad p.ad s→(∀ pl,isCp c.ad pl k→s.met (c.ad,pl,false)=0∧s.met (p.ad,pl,false)≠0)→∃ s1',ManyF t at_ s' (imgA c.ad c k) s1'∧RmR c.ad s1 s1'∧EI c.ad p.ad s1∧∀ pl,s.met (p.ad,pl,false)≠0→s.met (c.ad,pl,false)=0→¬isCp c.ad pl k→s1.met (c.ad,pl,false)=0
 | s,s1,.beg n pl nt K,.mk h,hk,hT,s',hr,hi,hC=>by
  have IH:=fun {s':St}=>ea_many hP hc hp hc5 hp5 hpc hnd hcc hpar h (s':=s')
  have hPn:P n K:=hk
  have hK:clean c.ad K:=hT
  by_cases e:n.ad=c.ad
  ·obtain ⟨rfl,rfl⟩:=hP.one n K c Kp hPn hc e
   obtain ⟨h0,hpm⟩:=hC pl ⟨rfl,rfl⟩
   have hfi:first t n pl nt K=n.subs.map fun s=>.beg s pl nt K:=by
    unfold first
    rw [if_neg (by rw [hc5];decide),if_neg (by rw [hc5];decide),if_neg (by rw [hc5];decide),if_neg (by rw [hc5];decide),if_pos hc5]
   have hw:(work t at_ s (.beg n pl nt K)).2=first t n pl nt K:=if_pos h0
   have hcl:=clean_first (t:=t) (pl:=pl) (nt:=nt) hcc hK
   obtain ⟨s1',g1,g2,g3,g4⟩:=IH (s':=s') (by rw [hw];exact hP.first n K hPn pl nt) (by rw [hw];exact fun x hx=>(hcl x hx).1) (rmR_left hr pl false) (fun q hq=>by
    show (s.mark (n.ad,pl,false)).met (p.ad,q,false)≠0
    have hq2:(s.mark (n.ad,pl,false)).met (n.ad,q,false)≠0:=hq
    by_cases eq:q=pl
    ·rw [eq];exact met_mark hpm
    ·rw [met_other (by simp only [ne_eq,Prod.mk.injEq,true_and,and_true];exact eq)] at hq2
     exact met_mark (hi q hq2)) (by
    rw [hw]
    intro x hx q hq
    exact absurd (by cases x with | beg n q nt K=>exact hq.1 | dcd n q nt K=>exact hq | go K q nt=>exact hq:isC n.ad x) (hcl x hx).2) (by
    rw [hw]
    exact List.pairwise_of_forall_mem_list fun x hx y hy h1=>absurd h1 (hcl x hx).2)
   rw [hw,hfi,imgA_alt] at g1
   refine ⟨s1',?_,g2,g3,fun q hq1 hq2 hq3=>g4 q ?_ ?_ ?_⟩
   ·show ManyF t at_ s' ((rmN n.ad n).map _) s1'
    rw [rmN_self rfl];exact g1
   ·exact met_mark hq1
   ·show (s.mark (n.ad,pl,false)).met (n.ad,q,false)=0
    rw [met_other (by simp only [ne_eq,Prod.mk.injEq,true_and,and_true];exact fun eq=>hq3 ⟨rfl,eq.symm⟩)]
    exact hq2
   ·rw [hw]
    intro x hx hx2
    exact absurd (by cases x with | beg n q nt K=>exact hx2.1 | dcd n q nt K=>exact hx2 | go K q nt=>exact hx2:isC n.ad x) (hcl x hx).2
  ·have hi1:imgA c.ad c (.beg n pl nt K)=[.beg (rm1 c.ad n) pl nt (rmF c.ad (pcs K))]:=by
    show (rmN c.ad n).map _=_
    rw [rmN_other e];rfl
   have hr2:=rmR_mark hr (n.ad,pl,false)
   have hz:s.met (n.ad,pl,false)=0 ↔ s'.met (n.ad,pl,false)=0:=hr.1 n.ad pl false e
   have hmk:∀ q b,(s.mark (n.ad,pl,b)).met (c.ad,q,false)=s.met (c.ad,q,false):=fun q b=>met_other (by simp only [ne_eq,Prod.mk.injEq];exact fun g=>e g.1.symm)
   have hi2:EI c.ad p.ad (s.mark (n.ad,pl,false)):=hi.mark fun q g=>e (by simp only [Prod.mk.injEq] at g;exact g.1)
   by_cases h0:s.met (n.ad,pl,false)=0
   ·have hw:(work t at_ s (.beg n pl nt K)).2=first t n pl nt K:=if_pos h0
    have hst:∀ x∈(work t at_ s (.beg n pl nt K)).2,TSt P x:=by rw [hw];exact hP.first n K hPn pl nt
    by_cases ep:n.ad=p.ad
    ·obtain ⟨rfl,rfl⟩:=hP.one n K p Kp hPn hp ep
     have hfi:first t n pl nt K=n.subs.map fun s=>.beg s pl nt K:=by
      unfold first
      rw [if_neg (by rw [hp5];decide),if_neg (by rw [hp5];decide),if_neg (by rw [hp5];decide),if_neg (by rw [hp5];decide),if_pos hp5]
     have hw':=hw.trans hfi
     obtain ⟨s1',g1,g2,g3,g4⟩:=IH (s':=s'.mark (n.ad,pl,false)) hst (by
      rw [hw']
      intro x hx
      obtain ⟨y,hy,rfl⟩:=zzp.1 hx
      exact hK) hr2 hi2 (by
      rw [hw']
      intro x hx q hq
      obtain ⟨y,hy,rfl⟩:=zzp.1 hx
      obtain ⟨hq1,rfl⟩:=hq
      refine ⟨?_,met_self _ _⟩
      show (s.mark (n.ad,pl,false)).met (c.ad,pl,false)=0
      rw [hmk]
      exact Nat.eq_zero_of_not_pos fun g=>hi pl (by omega) h0) (by
      rw [hw',List.pairwise_map]
      exact (List.pairwise_map.1 hnd).imp fun {x y} hxy h1 h2=>hxy (h1.trans h2.symm))
     rw [hw',imgA_alt] at g1
     refine ⟨s1',?_,g2,g3,fun q hq1 hq2 hq3=>g4 q (met_mark hq1) ((hmk q false).trans hq2) ?_⟩
     ·rw [hi1]
      refine .cons (.mk ?_) .nil
      have hwF:(workF t at_ s' (.beg (rm1 c.ad n) pl nt (rmF c.ad (pcs K)))).2=(rmL c.ad n.subs).map fun x=>.beg x pl nt (rmF c.ad (pcs K)):=by
       refine (if_pos (hz.1 h0)).trans ?_
       unfold firstF
       rw [if_neg (by show n.kind≠1;rw [hp5];decide),if_neg (by show n.kind≠2;rw [hp5];decide),if_neg (by show n.kind≠3;rw [hp5];decide),if_neg (by show n.kind≠4;rw [hp5];decide),if_pos (show (rm1 c.ad n).kind=5 from hp5)]
       rfl
      rw [hwF];exact g1
     ·rw [hw']
      intro x hx hx2
      obtain ⟨y,hy,rfl⟩:=zzp.1 hx
      exact hq1 (by rw [←hx2.2];exact h0)
    ·have hsub:=hpar n K hPn ep
     have hcl:=clean_first (t:=t) (pl:=pl) (nt:=nt) hsub hK
     have hno:∀ x∈(work t at_ s (.beg n pl nt K)).2,¬isC c.ad x:=by rw [hw];exact fun x hx=>(hcl x hx).2
     have hnp:∀ x∈(work t at_ s (.beg n pl nt K)).2,∀ q,¬isCp c.ad q x:=fun x hx q hq=>hno x hx (by cases x with | beg n q nt K=>exact hq.1 | dcd n q nt K=>exact hq | go K q nt=>exact hq)
     obtain ⟨s1',g1,g2,g3,g4⟩:=IH (s':=s'.mark (n.ad,pl,false)) hst (by rw [hw];exact fun x hx=>(hcl x hx).1) hr2 hi2 (fun x hx q hq=>absurd hq (hnp x hx q)) (List.pairwise_of_forall_mem_list fun x hx y hy h1=>absurd h1 (hno x hx))
     rw [imgA_map hno] at g1
     refine ⟨s1',?_,g2,g3,fun q hq1 hq2 hq3=>g4 q (met_mark hq1) ((hmk q false).trans hq2) fun x hx=>hnp x hx q⟩
     rw [hi1]
     refine .cons (.mk ?_) .nil
     have hwF:(workF t at_ s' (.beg (rm1 c.ad n) pl nt (rmF c.ad (pcs K)))).2=((work t at_ s (.beg n pl nt K)).2).map fun x=>rmT c.ad (frT x):=by
      rw [hw]
      refine (if_pos (hz.1 h0)).trans ?_
      rw [←first_rm (fun _ s hs=>⟨_,rmN_other (hsub s hs)⟩),←first_fr,List.map_map];rfl
     rw [hwF];exact g1
   ·have hs1:s1=s.mark (n.ad,pl,false):=by
     have h2:=h
     simp only [work] at h2
     rw [if_neg h0] at h2
     cases h2
     rfl
    subst hs1
    refine ⟨s'.mark (n.ad,pl,false),?_,hr2,hi2,fun q hq1 hq2 hq3=>(hmk q false).trans hq2⟩
    rw [hi1]
    refine .cons (.mk ?_) .nil
    rw [show (workF t at_ s' (.beg (rm1 c.ad n) pl nt (rmF c.ad (pcs K)))).2=[] from if_neg fun g=>h0 (hz.2 g)]
    exact .nil
 | s,s1,.dcd n pl nt K,.mk h,hk,hT,s',hr,hi,hC=>by
  have IH:=fun {s':St}=>ea_many hP hc hp hc5 hp5 hpc hnd hcc hpar h (s':=s')
  have hPn:P n K:=hk.1
  have hlo:n.Loops:=hk.2
  have hK:clean c.ad K:=hT
  have e:n.ad≠c.ad:=fun e=>by
   obtain ⟨rfl,rfl⟩:=hP.one n K c Kp hPn hc e
   rcases hlo with h2 | h2 <;> rw [hc5] at h2 <;> exact absurd h2 (by decide)
  have ep:n.ad≠p.ad:=fun e=>by
   obtain ⟨rfl,rfl⟩:=hP.one n K p Kp hPn hp e
   rcases hlo with h2 | h2 <;> rw [hp5] at h2 <;> exact absurd h2 (by decide)
  have hsub:=hpar n K hPn ep
  have hcl:=clean_choose (pl:=pl) (nt:=nt) (A:=.dec n K) hsub hK hK
  have hr2:=rmR_mark hr (n.ad,pl,true)
  have hz:s.met (n.ad,pl,true)=0 ↔ s'.met (n.ad,pl,true)=0:=hr.1 n.ad pl true e
  have hmk:∀ q,(s.mark (n.ad,pl,true)).met (c.ad,q,false)=s.met (c.ad,q,false):=fun q=>met_other (by simp)
  have hi2:EI c.ad p.ad (s.mark (n.ad,pl,true)):=hi.mark fun q g=>by simp at g
  have hsu:∀ x∈(work t at_ s (.dcd n pl nt K)).2,x∈choose n pl nt (.dec n K) K:=fun x hx=>by
   simp only [work] at hx
   split at hx
   ·exact hx
   ·cases hx
  have hno:∀ x∈(work t at_ s (.dcd n pl nt K)).2,¬isC c.ad x:=fun x hx=>(hcl x (hsu x hx)).2
  have hnp:∀ x∈(work t at_ s (.dcd n pl nt K)).2,∀ q,¬isCp c.ad q x:=fun x hx q hq=>hno x hx (by cases x with | beg n q nt K=>exact hq.1 | dcd n q nt K=>exact hq | go K q nt=>exact hq)
  obtain ⟨s1',g1,g2,g3,g4⟩:=IH (s':=s'.mark (n.ad,pl,true)) (fun x hx=>hP.decide n K hPn hlo pl nt x (hsu x hx)) (fun x hx=>(hcl x (hsu x hx)).1) hr2 hi2 (fun x hx q hq=>absurd hq (hnp x hx q)) (List.pairwise_of_forall_mem_list fun x hx y hy h1=>absurd h1 (hno x hx))
  rw [imgA_map hno] at g1
  refine ⟨s1',.cons (.mk ?_) .nil,g2,g3,fun q hq1 hq2 hq3=>g4 q (met_mark hq1) ((hmk q).trans hq2) fun x hx=>hnp x hx q⟩
  have hw:(workF t at_ s' (.dcd (rm1 c.ad n) pl nt (rmF c.ad (pcs K)))).2=((work t at_ s (.dcd n pl nt K)).2).map fun x=>rmT c.ad (frT x):=by
   show (if s'.met (n.ad,pl,true)=0 then chooseF (rm1 c.ad n) pl nt (.d (rm1 c.ad n) :: rmF c.ad (pcs K)) (rmF c.ad (pcs K)) else [])=(if s.met (n.ad,pl,true)=0 then choose n pl nt (.dec n K) K else []).map _
   by_cases h0:s.met (n.ad,pl,true)=0
   ·rw [if_pos h0,if_pos (hz.1 h0),show Pc.d (rm1 c.ad n) :: rmF c.ad (pcs K)=rmF c.ad (pcs (.dec n K)) from rfl,←choose_rm (fun s hs=>⟨_,rmN_other (hsub s hs)⟩),←choose_fr,List.map_map];rfl
   ·rw [if_neg h0,if_neg fun g=>h0 (hz.2 g)];rfl
  show ManyF t at_ (workF t at_ s' (.dcd (rm1 c.ad n) pl nt (rmF c.ad (pcs K)))).1 (workF t at_ s' (.dcd (rm1 c.ad n) pl nt (rmF c.ad (pcs K)))).2 s1'
  rw [hw];exact g1
 | s,s1,.go K pl nt,.mk h,hk,hT,s',hr,hi,hC=>by
  have IH:=fun {s':St}=>ea_many hP hc hp hc5 hp5 hpc hnd hcc hpar h (s':=s')
  have hK:clean c.ad K:=hT
  have hcl:=clean_go (t:=t) (at_:=at_) (s:=s) (pl:=pl) (nt:=nt) hK
  have hno:∀ x∈(work t at_ s (.go K pl nt)).2,¬isC c.ad x:=fun x hx=>(hcl x hx).2
  have hnp:∀ x∈(work t at_ s (.go K pl nt)).2,∀ q,¬isCp c.ad q x:=fun x hx q hq=>hno x hx (by cases x with | beg n q nt K=>exact hq.1 | dcd n q nt K=>exact hq | go K q nt=>exact hq)
  by_cases hK0:K=.top
  ·subst hK0
   have h2:=h
   simp only [work] at h2
   cases h2
   refine ⟨ended at_ s' pl nt,.cons (.mk .nil) .nil,⟨fun ad q b ha=>?_,?_⟩,fun q hq=>?_,fun q hq1 hq2 hq3=>?_⟩
   ·rw [ended_met,ended_met];exact hr.1 ad q b ha
   ·unfold ended
    rw [hr.2]
    split
    ·exact hr.2
    ·rfl
   ·rw [ended_met] at hq ⊢;exact hi q hq
   ·rw [ended_met];exact hq2
  ·obtain ⟨x,hx1,hx2,hx3⟩:∃ x,(work t at_ s (.go K pl nt)).2=[x]∧frT x=frT (.go K pl nt)∧(work t at_ s (.go K pl nt)).1=s:=by
    cases K with
    | top=>exact absurd rfl hK0
    | row l K=>exact ⟨_,rfl,frT_rowT l pl nt K,rfl⟩
    | grp i K=>exact ⟨_,rfl,rfl,rfl⟩
    | dec n K=>exact ⟨_,rfl,rfl,rfl⟩
   obtain ⟨s1',g1,g2,g3,g4⟩:=IH (s':=s') (fun x hx=>rm_st hk x hx) (fun x hx=>(hcl x hx).1) (by rw [hx3];exact hr) (by rw [hx3];exact hi) (fun x hx q hq=>absurd hq (hnp x hx q)) (List.pairwise_of_forall_mem_list fun x hx y hy h1=>absurd h1 (hno x hx))
   rw [imgA_map hno,hx1,zzS,zzt,hx2] at g1
   refine ⟨s1',g1,g2,g3,fun q hq1 hq2 hq3=>g4 q (by rw [hx3];exact hq1) (by rw [hx3];exact hq2) fun x hx=>hnp x hx q⟩
theorem ea_many (hP:Place t P) (hc:P c Kp) (hp:P p Kp) (hc5:c.kind=5) (hp5:p.kind=5) (hpc:p.ad≠c.ad) (hnd:(p.subs.map Un.ad).Nodup) (hcc:∀ x∈c.subs,x.ad≠c.ad) (hpar:∀ n K,P n K→n.ad≠p.ad→∀ s∈n.subs,s.ad≠c.ad) :
  ∀ {s s1:St} {l:List Task},Many t at_ s l s1→(∀ k∈l,TSt P k)→(∀ k∈l,TC c.ad k)→∀ {s':St},RmR c.ad s s'→EI c.ad p.ad s→(∀ k∈l,∀ pl,isCp c.ad pl k→s.met (c.ad,pl,false)=0∧s.met (p.ad,pl,false)≠0)→l.Pairwise (fun x y=>isC c.ad x→¬isC c.ad y)→∃ s1',ManyF t at_ s' (l.flatMap (imgA c.ad c)) s1'∧RmR c.ad s1 s1'∧EI c.ad p.ad s1∧∀ pl,s.met (p.ad,pl,false)≠0→s.met (c.ad,pl,false)=0→(∀ k∈l,¬isCp c.ad pl k)→s1.met (c.ad,pl,false)=0
 | s,_,[],.nil,_,_,s',hr,hi,_,_=>⟨s',.nil,hr,hi,fun _ _ h _=>h⟩
 | s,s1,k :: l,.cons h1 h2,hk,hT,s',hr,hi,hC,hpw=>by
  obtain ⟨hp1,hp2⟩:=List.pairwise_cons.1 hpw
  have hgr:=one_grows h1
  obtain ⟨sa,g1,g2,g3,g4⟩:=ea_one hP hc hp hc5 hp5 hpc hnd hcc hpar h1 (hk k zzH) (hT k zzH) hr hi (hC k zzH)
  obtain ⟨sb,g5,g6,g7,g8⟩:=ea_many hP hc hp hc5 hp5 hpc hnd hcc hpar h2 (fun x hx=>hk x (zzI _ hx)) (fun x hx=>hT x (zzI _ hx)) g2 g3 (fun x hx q hq=>by
   obtain ⟨e1,e2⟩:=hC x (zzI _ hx) q hq
   have hxc:isC c.ad x:=by cases x with | beg n q nt K=>exact hq.1 | dcd n q nt K=>exact hq | go K q nt=>exact hq
   refine ⟨g4 q e2 e1 fun hkc=>hp1 x hx ?_ hxc,grows_ne hgr e2⟩
   cases k with | beg n q nt K=>exact hkc.1 | dcd n q nt K=>exact hkc | go K q nt=>exact hkc) hp2
  refine ⟨sb,by rw [zzl];exact manyF_append g1 g5,g6,g7,fun q hq1 hq2 hq3=>g8 q (grows_ne hgr hq1) (g4 q hq1 hq2 (hq3 k zzH)) fun x hx=>hq3 x (zzI _ hx)⟩
end
end
end Mean
end Go.Proofs.YtgkclnmmjedmkaaGreat
