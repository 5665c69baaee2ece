/- Trees in memory. No program here. -/
import Derived.Maps.Own
import Derived.WideKeyEntry
import Derived.LaidEql
import Derived.BigQuiet
import Derived.Deep.QuietTactic
import Derived.Deep.RegionHeldLaw
import Derived.Handy
import Derived.Test.YtgkclnmmjedmkaaGreatP02
set_option maxHeartbeats 1000000
namespace Go.Proofs.YtgkclnmmjedmkaaGreat
open Go.RowKit
inductive Ta where
 | mk (kind:Int) (rng:List (Int × Int)) (ra:Option Addr) (rc:Nat) (ast:Int) (subs:List Ta) (sa:Option Addr) (sc:Nat) (mn mx:Int) (lz:Bool) (ix:Int) (nm:ByteArray)
def Ta.subs:Ta→List Ta | .mk _ _ _ _ _ l _ _ _ _ _ _ _=>l
def Ta.vals:Ta→List Value | .mk k r ra rc a l sa sc n m z i s=>[.int .i64 k,.slice ra r.length rc,.int .i64 a,.slice sa l.length sc,.int .i64 n,.int .i64 m,.bool z,.int .i64 i,.string s]
def Ta.val (t:Ta):Value:=.agg t.vals.toArray
def rowT (l:List Ta):List Value:=l.flatMap Ta.vals
theorem Ta.vals_length (t:Ta):t.vals.length=9:=by cases t;rfl
theorem rowT_length:∀ l:List Ta,(rowT l).length=l.length*9
 | []=>rfl
 | t :: l=>by
  have ih:=rowT_length l
  unfold rowT at ih ⊢
  rw [zzl,zzG,Ta.vals_length,ih,zzO];omega
theorem rowT_append (a b:List Ta):rowT (a++b)=rowT a++rowT b:=by unfold rowT;rw [List.flatMap_append]
theorem rowT_cons (t:Ta) (l:List Ta):rowT (t :: l)=t.vals++rowT l:=rfl
theorem rowT_get:∀ (l:List Ta) (j q:Nat) (t:Ta),l[j]?=some t→q < 9→(rowT l)[j*9+q]?=t.vals[q]?
 | [],j,q,t,h,_=>by simp at h
 | u :: l,0,q,t,h,hq=>by
  simp only [zzR,zzd] at h
  subst h
  rw [rowT_cons,Nat.zero_mul,zzw]
  exact List.getElem?_append_left (by rw [Ta.vals_length];exact hq)
 | u :: l,j+1,q,t,h,hq=>by
  have:=rowT_get l j q t (by simpa using h) hq
  have e1:(j+1)*9+q=9+(j*9+q):=by omega
  rw [e1,rowT_cons,zzz (by rw [Ta.vals_length];omega),Ta.vals_length,←this]
  simp
theorem Ta.ind {P:Ta→Prop} (h:∀ t,(∀ s∈t.subs,P s)→P t):∀ t,P t:=fun t =>
 Ta.rec (motive_1:=P) (motive_2:=fun l=>∀ s∈l,P s) (fun k r ra rc a l sa sc n m z i s ih=>h (.mk k r ra rc a l sa sc n m z i s) ih) (by simp) (fun a l ha hl=>by intro s hs;rcases zzN.1 hs with rfl | hs;exact ha;exact hl s hs) t
mutual
def Ta.tr:Ta→Tr.Tr
 | .mk k r _ _ a l _ _ n m z i s=>.mk k r a (trs l) n m z i s
def trs:List Ta→List Tr.Tr
 | []=>[]
 | t :: l=>t.tr :: trs l
end
theorem trs_map:∀ l:List Ta,trs l=l.map Ta.tr
 | []=>rfl
 | t :: l=>by rw [trs,trs_map l];rfl
theorem trs_length (l:List Ta):(trs l).length=l.length:=by rw [trs_map,zzP]
theorem Ta.tr_subs (t:Ta):t.tr.subs=t.subs.map Ta.tr:=by cases t;rw [Ta.tr,trs_map];rfl
def RdA (w:World) (S:Nat→Prop) (size:Nat) (A:Option Addr) (n c:Nat) (xs:List Value):Prop :=
 n≤c∧c≤9223372036854775807∧xs.length=n*size∧(A=none→c=0)∧(0 < n→∃ b off,A=some ⟨b,off,none⟩∧S b∧∀ j u,xs[j]?=some u→w.cell? ⟨b,off+j,none⟩=some u)
mutual
def RT (w:World) (S:Nat→Prop):Ta→Prop
 | .mk _ r ra rc _ l sa sc _ _ _ _ s=>(RdA w S 2 ra r.length rc (flat r)∧r.length≤1048576∧l.length≤1048576∧s.size≤1048576)∧RdA w S 9 sa l.length sc (rowT l)∧RTs w S l
def RTs (w:World) (S:Nat→Prop):List Ta→Prop
 | []=>True
 | t :: l=>RT w S t∧RTs w S l
end
theorem RTs_iff {w:World} {S:Nat→Prop}:∀ l:List Ta,RTs w S l ↔ ∀ t∈l,RT w S t
 | []=>by simp [RTs]
 | t :: l=>by rw [RTs,RTs_iff l];simp
section
variable {w w':World} {S S':Nat→Prop} {size n c B:Nat} {A:Option Addr} {xs:List Value} {t:Ta} {l:List Ta}
theorem RdA.reads (h:RdA w S size A n c xs) (hS:∀ b,S b→b < B):Reads w B size A n c xs :=
 ⟨h.1,h.2.1,h.2.2.1,fun hn=>by
  obtain ⟨b,off,e,hb,hc⟩:=h.2.2.2.2 hn
  exact ⟨b,off,e,hS b hb,hc⟩⟩
theorem RdA.of_reads (h:Reads w B size A n c xs) (hA:A=none→c=0):RdA w (· < B) size A n c xs:=⟨h.1,h.2.1,h.2.2.1,hA,h.2.2.2⟩
theorem RdA.mono (h:RdA w S size A n c xs) (hS:∀ b,S b→S' b):RdA w S' size A n c xs :=
 ⟨h.1,h.2.1,h.2.2.1,h.2.2.2.1,fun hn=>by
  obtain ⟨b,off,e,hb,hc⟩:=h.2.2.2.2 hn
  exact ⟨b,off,e,hS b hb,hc⟩⟩
theorem RdA.go (h:RdA w S size A n c xs) (hS:∀ b,S b→w'.heap[b]?=w.heap[b]?):RdA w' S size A n c xs :=
 ⟨h.1,h.2.1,h.2.2.1,h.2.2.2.1,fun hn=>by
  obtain ⟨b,off,e,hb,hc⟩:=h.2.2.2.2 hn
  exact ⟨b,off,e,hb,fun j u hu=>(World.cell?_of_block (a:=⟨b,off+j,none⟩) (hS b hb)).trans (hc j u hu)⟩⟩
theorem RdA.none_:RdA w S size none 0 0 []:=⟨zzF _,by omega,by simp,fun _=>rfl,fun h=>absurd h (by omega)⟩
theorem RT.parts {k:Int} {r:List (Int × Int)} {ra:Option Addr} {rc:Nat} {a:Int} {sa:Option Addr} {sc:Nat} {mn mx:Int} {z:Bool} {i:Int} {s:ByteArray} (h:RT w S (.mk k r ra rc a l sa sc mn mx z i s)) :
  (RdA w S 2 ra r.length rc (flat r)∧r.length≤1048576∧l.length≤1048576∧s.size≤1048576)∧RdA w S 9 sa l.length sc (rowT l)∧∀ t∈l,RT w S t:=by
 rw [RT,RTs_iff] at h;exact h
theorem RT.of {k:Int} {r:List (Int × Int)} {ra:Option Addr} {rc:Nat} {a:Int} {sa:Option Addr} {sc:Nat} {mn mx:Int} {z:Bool} {i:Int} {s:ByteArray}
  (h1:RdA w S 2 ra r.length rc (flat r)∧r.length≤1048576∧l.length≤1048576∧s.size≤1048576) (h2:RdA w S 9 sa l.length sc (rowT l)) (h3:∀ t∈l,RT w S t):RT w S (.mk k r ra rc a l sa sc mn mx z i s):=by
 rw [RT,RTs_iff];exact ⟨h1,h2,h3⟩
theorem RT.mono (h:RT w S t) (hS:∀ b,S b→S' b):RT w S' t:=by
 induction t using Ta.ind with
 | h t ih =>
  cases t with
  | mk k r ra rc a l sa sc n m z i s =>
   obtain ⟨h1,h2,h3⟩:=h.parts
   exact RT.of ⟨h1.1.mono hS,h1.2⟩ (h2.mono hS) fun t ht=>ih t ht (h3 t ht)
theorem RT.go (h:RT w S t) (hS:∀ b,S b→w'.heap[b]?=w.heap[b]?):RT w' S t:=by
 induction t using Ta.ind with
 | h t ih =>
  cases t with
  | mk k r ra rc a l sa sc n m z i s =>
   obtain ⟨h1,h2,h3⟩:=h.parts
   exact RT.of ⟨h1.1.go hS,h1.2⟩ (h2.go hS) fun t ht=>ih t ht (h3 t ht)
theorem RT.below (h:RT w S t) (hS:∀ b,S b→b < B) (hb:Below B w w'):RT w' S t:=h.go fun b hb'=>hb.block b (hS b hb')
theorem RT.drewN (h:RT w S t) (k:Nat):RT (w.drewN k) S t:=h.go fun _ _=>rfl
end
def kv (m:Mean.Mark):Value:=.agg #[.pointer (some ⟨m.1,0,none⟩),.int .i64 (m.2.1:Int),.bool m.2.2]
theorem kv_inj {m m':Mean.Mark} (h:kv m=kv m'):m=m':=by
 obtain ⟨a,b,c⟩:=m;obtain ⟨a',b',c'⟩:=m'
 simp only [kv,Value.agg.injEq,Array.mk.injEq,List.cons.injEq,Value.pointer.injEq,zzd,Addr.mk.injEq,Value.int.injEq,Value.bool.injEq,and_true,true_and] at h
 obtain ⟨rfl,h2,rfl⟩:=h
 have:b=b':=by omega
 subst this;rfl
theorem equal_ptr (w:World) {b b':Nat} {cs cs':Array Value} {t t':TypeId} (h:w.heap[b]?=some (Obj.cells cs t (0,0))) (h':w.heap[b']?=some (Obj.cells cs' t' (0,0))) (n:Nat) :
  (Op.equalIn (n+1) 69 (.pointer (some ⟨b,0,none⟩)) (.pointer (some ⟨b',0,none⟩))).run Tryz.prog w=.ok (decide (b=b')) w:=by
 rw [Op.equalIn]
 simp only [Sem.run_bind,run_underlying Tryz.underlying69,Result.andThen_ok]
 simp [go_sem]
 by_cases e:b=b'
 ·subst e
  rw [run_sameAddr_same];simp
 ·rw [run_sameAddr_other w (by simp) h h'];simp [e]
theorem equal_kv (w:World) {m m':Mean.Mark} {cs cs':Array Value} {t t':TypeId} (h:w.heap[m.1]?=some (Obj.cells cs t (0,0))) (h':w.heap[m'.1]?=some (Obj.cells cs' t' (0,0))) :
  (Op.equal 107 (kv m) (kv m')).run Tryz.prog w=.ok (decide (m=m')) w:=by
 unfold Op.equal Op.maxDepth kv
 rw [Op.equalIn]
 have hst:Tryz.prog.stoodInHeld 107=false:=by kernel_rfl
 have hp:=equal_ptr w h h' 9998
 simp only [Sem.run_bind,run_underlying Tryz.underlying107,Result.andThen_ok]
 simp [go_sem,hst,hp]
 obtain ⟨a,b,c⟩:=m;obtain ⟨a',b',c'⟩:=m'
 by_cases e1:a=a'
 ·by_cases e2:b=b'
  ·by_cases e3:c=c'
   ·simp [e1,e2,e3]
   ·simp [e1,e2,e3]
  ·have:¬((b:Int)=(b':Int)):=by omega
   simp [e1,e2,this]
 ·simp [e1]
theorem check_plain (w:World) (em:Bool) (n:Nat) (u:TypeId) (d:TypeDesc) (v:Value) (hu:Tryz.prog.underlying u=some d) (h1:∀ i,d≠.interface i) (h2:∀ i j,d≠.array i j) (h3:∀ i,d≠.struct i):(Instr.checkKey em (n+1) u v).run Tryz.prog w=.ok () w:=by
 rw [Instr.checkKey]
 simp only [Sem.run_bind,run_underlying hu,Result.andThen_ok]
 split
 ·exact (h1 _ rfl).elim
 ·exact (h2 _ _ rfl).elim
 ·exact (h3 _ rfl).elim
 ·exact (h1 _ rfl).elim
 ·exact (h1 _ rfl).elim
 ·exact (h2 _ _ rfl).elim
 ·exact (h3 _ rfl).elim
 ·rw [Sem.run_pure]
theorem check_kv' (w:World) (em:Bool) (n:Nat) (m:Mean.Mark):(Instr.checkKey em (n+1+1) 107 (kv m)).run Tryz.prog w=.ok () w:=by
 unfold kv
 have e1:=fun v=>check_plain w em n 69 _ v Tryz.underlying69 (by simp) (by simp) (by simp)
 have e2:=fun v=>check_plain w em n 3 _ v Tryz.underlying3 (by simp) (by simp) (by simp)
 have e3:=fun v=>check_plain w em n 4 _ v Tryz.underlying4 (by simp) (by simp) (by simp)
 rw [Instr.checkKey]
 simp only [Sem.run_bind,run_underlying Tryz.underlying107,Result.andThen_ok]
 simp [go_sem,e1,e2,e3]
theorem check_kv (w:World) (em:Bool) (m:Mean.Mark):(Instr.checkKey em 10000 107 (kv m)).run Tryz.prog w=.ok () w:=check_kv' w em 9998 m
theorem bits_kv (n:Nat) (m:Mean.Mark):Instr.sameBits (n+1) (kv m) (kv m)=true:=by
 unfold kv
 simp [Instr.sameBits]
theorem stays_kv (w:World) (m:Mean.Mark):(Instr.keyThatStays (kv m) (kv m)).run Tryz.prog w=.ok (kv m) w:=by
 unfold Instr.keyThatStays
 have:=bits_kv 9999 m
 rw [show (9999+1:Nat)=10000 from rfl] at this
 rw [if_pos this];rfl
structure MapOk (N:Nat→Prop) (es:Array MapEntry) (clock:Nat) (met:Mean.Mark→Nat):Prop where
 stamped:MapKept.Stamped es clock
 reads:∀ e∈es.toList,∃ m,e.key=kv m∧N m.1∧e.val=.int .i64 (met m:Int)
 has:∀ m,0 < met m→∃ e∈es.toList,e.key=kv m
theorem find_kv (w:World) {N:Nat→Prop} (hN:∀ b,N b→∃ cs t,w.heap[b]?=some (Obj.cells cs t (0,0))) {m:Mean.Mark} (hm:N m.1):∀ (es:List MapEntry) (i:Nat),(∀ e∈es,∃ m,e.key=kv m∧N m.1) →
  ((Instr.findAsking 107 (kv m) es i).run Tryz.prog w=.ok none w∧∀ e∈es,e.key≠kv m) ∨
  ∃ j e,(Instr.findAsking 107 (kv m) es i).run Tryz.prog w=.ok (some (i+j,e.val)) w∧es[j]?=some e∧e.key=kv m
 | [],i,_=>Or.inl ⟨by simp [Instr.findAsking],by simp⟩
 | e :: es,i,hall=>by
  obtain ⟨m',hk,hn'⟩:=hall e (by simp)
  obtain ⟨cs,t,h1⟩:=hN _ hm
  obtain ⟨cs',t',h2⟩:=hN _ hn'
  have hr:=equal_kv w (m:=m) (m':=m') h1 h2
  rw [←hk] at hr
  by_cases hmm:m=m'
  ·subst hmm
   rw [decide_eq_true rfl] at hr
   exact Or.inr ⟨0,e,by simp [Instr.findAsking,hr],rfl,hk⟩
  ·rw [decide_eq_false hmm] at hr
   rcases find_kv w hN hm es (i+1) (fun y hy=>hall y (by simp [hy])) with ⟨h1,h2⟩ | ⟨j,e',h1,h2,h3⟩
   ·refine Or.inl ⟨by simp [Instr.findAsking,hr,h1],fun y hy=>?_⟩
    rcases zzN.1 hy with rfl | hy
    ·rw [hk];exact fun h=>hmm (kv_inj h).symm
    ·exact h2 y hy
   ·exact Or.inr ⟨j+1,e',by simp [Instr.findAsking,hr,h1,zzy,Nat.add_comm 1 j],by simpa using h2,h3⟩
theorem findKey_kv (w:World) {N:Nat→Prop} (hN:∀ b,N b→∃ cs t,w.heap[b]?=some (Obj.cells cs t (0,0))) {m:Mean.Mark} (hm:N m.1) (es:List MapEntry) (h:∀ e∈es,∃ m,e.key=kv m∧N m.1) :
  ((Instr.findKey 107 (kv m) es).run Tryz.prog w=.ok none w∧∀ e∈es,e.key≠kv m) ∨
  ∃ j e,(Instr.findKey 107 (kv m) es).run Tryz.prog w=.ok (some (j,e.val)) w∧es[j]?=some e∧e.key=kv m:=by
 have e:(Instr.findKey 107 (kv m) es).run Tryz.prog w=(Instr.findAsking 107 (kv m) es).run Tryz.prog w:=by
  unfold Instr.findKey
  cases es with
  | nil=>simp [run_underlying Tryz.underlying107,Instr.findNow,Instr.findAsking]
  | cons x es=>simp [run_underlying Tryz.underlying107,Instr.findNow,Instr.sameNow]
 rw [e]
 rcases find_kv w hN hm es 0 h with h1 | ⟨j,e,h1,h2,h3⟩
 ·exact Or.inl h1
 ·exact Or.inr ⟨j,e,by simpa using h1,h2,h3⟩
section
variable {w:World} {N:Nat→Prop} {es:Array MapEntry} {clock b:Nat} {met:Mean.Mark→Nat} {m:Mean.Mark}
theorem MapOk.keys (h:MapOk N es clock met):∀ e∈es.toList,∃ m,e.key=kv m∧N m.1:=fun e he=>by
 obtain ⟨m,h1,h2,_⟩:=h.reads e he;exact ⟨m,h1,h2⟩
theorem MapOk.lookup (h:MapOk N es clock met) (hN:∀ b,N b→∃ cs t,w.heap[b]?=some (Obj.cells cs t (0,0))) (hm:N m.1) (hb:w.heap[b]?=some (.map es clock)) :
  (Instr.lookup 64 (.map (some b)) (kv m) false).run Tryz.prog w=.ok (.int .i64 (met m:Int)) w:=by
 have hz:(zeroValue 3).run Tryz.prog w=.ok (.int .i64 0) w:=by simp [go_sem]
 rcases findKey_kv w hN hm es.toList h.keys with ⟨h1,h2⟩ | ⟨j,e0,h1,h2,h3⟩
 ·have:met m=0:=by
   by_cases e:met m=0
   ·exact e
   ·obtain ⟨x,hx,hk⟩:=h.has m (by omega)
    exact absurd hk (h2 x hx)
  rw [this]
  simp [Instr.lookup,run_underlying Tryz.underlying64,MapKept.run_getObj_map hb,check_kv,h1,hz,Result.andThen]
 ·obtain ⟨m',e1,_,e2⟩:=h.reads e0 (zzL h2)
  rw [h3] at e1
  have:=kv_inj e1
  subst this
  simp [Instr.lookup,run_underlying Tryz.underlying64,MapKept.run_getObj_map hb,check_kv,h1,e2,Result.andThen]
theorem MapOk.entry (h:MapOk N es clock met) (hN:∀ b,N b→∃ cs t,w.heap[b]?=some (Obj.cells cs t (0,0))) (hm:N m.1) (hb:w.heap[b]?=some (.map es clock)) :
  ∃ (v0:Value) (st:Nat) (es1:Array MapEntry) (clock1:Nat),(Instr.mapEntry 64 (.map (some b)) (kv m)).run Tryz.prog w=.ok (.tuple #[v0,goInt st]) (ChangeMaps.setBlock w b (.map es1 clock1))∧MapOk N es1 clock1 met ∧
   ∀ (w2:World),w2.heap[b]?=some (.map es1 clock1)→∃ es' clock',(Instr.entryStore 64 (.map (some b)) (goInt st) (.int .i64 ((met m:Int)+1))).run Tryz.prog w2=.ok () (ChangeMaps.setBlock w2 b (.map es' clock')) ∧
    MapOk N es' clock' (fun x=>if x=m then met x+1 else met x):=by
 have hz:(zeroValue 3).run Tryz.prog w=.ok (.int .i64 0) w:=by simp [go_sem]
 obtain ⟨s1,s2,s3⟩:=h.stamped
 have hs3:=((MapKept.stamped_iff es clock).1 h.stamped).2.2
 rcases findKey_kv w hN hm es.toList h.keys with ⟨h1,h2⟩ | ⟨j,e0,h1,h2,h3⟩
 ·have hm0:met m=0:=by
   by_cases e:met m=0
   ·exact e
   ·obtain ⟨x,hx,hk⟩:=h.has m (by omega)
    exact absurd hk (h2 x hx)
  refine ⟨.int .i64 0,clock,es.push ⟨kv m,.int .i64 0,clock⟩,clock+1,?_,⟨MapKept.stamped_push h.stamped h2,?_,?_⟩,fun w2 hw2=>⟨es.push ⟨kv m,.int .i64 ((met m:Int)+1),clock⟩,clock+1,?_,⟨MapKept.stamped_push h.stamped h2,?_,?_⟩⟩⟩
  ·simp [Instr.mapEntry,run_underlying Tryz.underlying64,MapKept.run_getObj_map hb,check_kv,h1,hz,MapKept.run_setObj_map _ hb,Result.andThen,ChangeMaps.setBlock]
  ·intro e he
   simp only [Array.toList_push,zzM,zzE] at he
   rcases he with he | rfl
   ·exact h.reads e he
   ·exact ⟨m,rfl,hm,by rw [hm0];rfl⟩
  ·intro m' hm'
   obtain ⟨e,he,hk⟩:=h.has m' hm'
   exact ⟨e,by simp [he],hk⟩
  ·have hidx:(es.push ⟨kv m,.int .i64 0,clock⟩).findIdx? (fun e=>((e.born:Nat):Int)==((clock:Nat):Int))=some es.size:=by
    rw [WideElems.findIdx_arr]
    exact WideElems.findIdx_born (l:=(es.push ⟨kv m,.int .i64 0,clock⟩).toList) (j:=es.size) (e0:=⟨kv m,.int .i64 0,clock⟩) (by
     simp only [Array.toList_push,zzT,zzS,zzt]
     refine List.nodup_append.2 ⟨s2,by simp,fun a ha c hc e1=>?_⟩
     simp only [zzE] at hc
     obtain ⟨x,hx,rfl⟩:=zzp.1 ha
     have:=s1 x hx
     omega) (by simp)
   have hmod:(es.push ⟨kv m,.int .i64 0,clock⟩).modify es.size (fun e=>{ e with val:=.int .i64 ((met m:Int)+1) })=es.push ⟨kv m,.int .i64 ((met m:Int)+1),clock⟩:=by
    apply Array.ext'
    rw [Array.toList_modify,Array.toList_push,Array.toList_push,←Array.length_toList,WideElems.modify_last]
   simp [Instr.entryStore,MapKept.run_getObj_map hw2,asInt,asIntOf,goInt,hidx,hmod,MapKept.run_setObj_map _ hw2,Result.andThen,ChangeMaps.setBlock]
  ·intro e he
   simp only [Array.toList_push,zzM,zzE] at he
   rcases he with he | rfl
   ·obtain ⟨m',e1,e2,e3⟩:=h.reads e he
    refine ⟨m',e1,e2,?_⟩
    have:m'≠m:=fun hx=>h2 e he (by rw [e1,hx])
    rw [if_neg this];exact e3
   ·exact ⟨m,rfl,hm,by rw [if_pos rfl];simp⟩
  ·intro m' hm'
   by_cases e:m'=m
   ·exact ⟨⟨kv m,.int .i64 ((met m:Int)+1),clock⟩,by simp,by rw [e]⟩
   ·rw [if_neg e] at hm'
    obtain ⟨x,hx,hk⟩:=h.has m' hm'
    exact ⟨x,by simp [hx],hk⟩
 ·have hj:es[j]?=some e0:=by simpa using h2
  obtain ⟨m',e1,e2,e3⟩:=h.reads e0 (zzL h2)
  have hmm:=kv_inj (h3.symm.trans e1)
  subst hmm
  have hsame:es.modify j (fun e=>{ e with key:=kv m })=es:=by
   apply Array.ext'
   rw [Array.toList_modify,ChangeMaps.modify_eq_set _ _ _ _ h2]
   have:({ e0 with key:=kv m }:MapEntry)=e0:=by rw [←h3]
   rw [this]
   exact WideElems.set_self _ _ _ h2
  have hkeyf:∀ e',es[j]?=some e'→({ e' with val:=.int .i64 ((met m:Int)+1) }:MapEntry).key=e'.key:=fun e' he'=>rfl
  have hlist:(es.modify j (fun e'=>{ e' with val:=.int .i64 ((met m:Int)+1) })).toList=es.toList.set j { e0 with val:=.int .i64 ((met m:Int)+1) }:=by rw [Array.toList_modify,ChangeMaps.modify_eq_set _ _ _ _ h2]
  have hjl:j < es.toList.length:=(zzK.1 h2).1
  refine ⟨e0.val,e0.born,es,clock,?_,h,fun w2 hw2=>⟨es.modify j (fun e'=>{ e' with val:=.int .i64 ((met m:Int)+1) }),clock,?_,⟨MapKept.stamped_modify h.stamped _ _ (fun _ _=>rfl) (fun e' _ he'=>rfl),?_,?_⟩⟩⟩
  ·simp [Instr.mapEntry,run_underlying Tryz.underlying64,MapKept.run_getObj_map hb,check_kv,h1,hj,h3,stays_kv,hsame,MapKept.run_setObj_map _ hb,Result.andThen,ChangeMaps.setBlock]
  ·have hidx:es.findIdx? (fun e=>((e.born:Nat):Int)==((e0.born:Nat):Int))=some j:=by
    rw [WideElems.findIdx_arr]
    exact WideElems.findIdx_born s2 h2
   simp [Instr.entryStore,MapKept.run_getObj_map hw2,asInt,asIntOf,goInt,hidx,MapKept.run_setObj_map _ hw2,Result.andThen,ChangeMaps.setBlock]
  ·intro x hx
   rw [hlist] at hx
   obtain ⟨i,hi,ex⟩:=List.getElem_of_mem hx
   rw [List.getElem_set] at ex
   split at ex
   ·subst ex
    exact ⟨m,h3,hm,by rw [if_pos rfl];simp⟩
   ·rename_i hne
    have hi':i < es.toList.length:=by simpa using hi
    obtain ⟨m',f1,f2,f3⟩:=h.reads x (ex ▸ List.getElem_mem hi')
    refine ⟨m',f1,f2,?_⟩
    have:m'≠m:=fun hx=>by
     have hk:x.key=e0.key:=by rw [f1,h3,hx]
     have he0:es.toList[j]=e0:=(zzK.1 h2).2
     have hn:(es.toList.map (·.key)).Nodup:=s3
     rw [List.Nodup,List.pairwise_iff_getElem] at hn
     have hji:(es.toList.map (·.key))[i]'(by simpa using hi')=(es.toList.map (·.key))[j]'(by simpa using hjl):=by simp only [List.getElem_map,ex,he0];exact hk
     rcases Nat.lt_or_gt_of_ne hne with hlt | hlt
     ·exact hn j i (by simpa using hjl) (by simpa using hi') hlt hji.symm
     ·exact hn i j (by simpa using hi') (by simpa using hjl) hlt hji
    rw [if_neg this];exact f3
  ·intro m' hm'
   by_cases e:m'=m
   ·refine ⟨{ e0 with val:=.int .i64 ((met m:Int)+1) },?_,by rw [e];exact h3⟩
    rw [hlist]
    exact List.mem_iff_getElem.2 ⟨j,by simpa using hjl,by simp⟩
   ·rw [if_neg e] at hm'
    obtain ⟨x,hx,hk⟩:=h.has m' hm'
    refine ⟨x,?_,hk⟩
    rw [hlist]
    obtain ⟨i,hi,ex⟩:=List.getElem_of_mem hx
    have hne:j≠i:=fun hx=>by
     subst hx
     have he0:es.toList[j]=e0:=(zzK.1 h2).2
     rw [←ex,he0] at hk
     exact e (kv_inj (hk.symm.trans h3))
    exact List.mem_iff_getElem.2 ⟨i,by simpa using hi,by rw [List.getElem_set_ne hne];exact ex⟩
end
structure Wk where
 base:Nat
 wb:Nat
 mb:Nat
 ob:Nat
 ab:Nat
 At:Option Addr
 nt:Nat
 ct:Nat
 t:List Int
 at_:Nat
 NL:Nat
 U:List Mean.Un
def outB (ob:Nat) (w:World):Option Nat:=(w.cell? ⟨ob,0,none⟩).bind Value.ownBlock
def Wk.mut (G:Wk) (w:World):List Nat:=G.mb :: G.ob :: (outB G.ob w).toList
def Wk.still (G:Wk) (w:World) (b:Nat):Prop:=b < w.heap.size∧b ∉ G.mut w
structure Wk.fr (G:Wk) (w w':World):Prop where
 kept:Kept w w' (G.mut w)
 out:∀ b,outB G.ob w'=some b→outB G.ob w=some b∨w.heap.size≤b
 mb:G.mb < w.heap.size
 ob:G.ob < w.heap.size
section
variable {G:Wk} {w w' w'':World} {b:Nat}
theorem mem_mut:b∈G.mut w ↔ b=G.mb∨b=G.ob∨outB G.ob w=some b:=by
 unfold Wk.mut
 simp only [zzN,Option.mem_toList,Option.mem_def]
theorem Wk.still.fr (h:G.still w b) (f:G.fr w w'):G.still w' b:=by
 refine ⟨zzQ h.1 f.kept.size,fun hm=>h.2 (mem_mut.2 ?_)⟩
 rcases mem_mut.1 hm with e | e | e
 ·exact .inl e
 ·exact .inr (.inl e)
 ·rcases f.out b e with e | e
  ·exact .inr (.inr e)
  ·exact absurd h.1 (by omega)
theorem Wk.still.heap (h:G.still w b) (f:G.fr w w'):w'.heap[b]?=w.heap[b]?:=f.kept.block b h.1 h.2
theorem Wk.still.cell (h:G.still w b) (f:G.fr w w') (o:Nat):w'.cell? ⟨b,o,none⟩=w.cell? ⟨b,o,none⟩:=World.cell?_of_block (a:=⟨b,o,none⟩) (h.heap f)
theorem Wk.fr.trans (f:G.fr w w') (g:G.fr w' w''):G.fr w w'':=by
 refine ⟨(f.kept.trans g.kept).more fun k hk=>?_,fun b hb=>?_,f.mb,f.ob⟩
 ·rcases zzM.1 hk with hk | hk
  ·exact .inl hk
  ·rcases mem_mut.1 hk with e | e | e
   ·exact .inl (mem_mut.2 (.inl e))
   ·exact .inl (mem_mut.2 (.inr (.inl e)))
   ·rcases f.out k e with e | e
    ·exact .inl (mem_mut.2 (.inr (.inr e)))
    ·exact .inr e
 ·rcases g.out b hb with e | e
  ·exact f.out b e
  ·exact .inr (zzU f.kept.size e)
theorem Wk.fr.of_below (h:Below w.heap.size w w') (hm:G.mb < w.heap.size) (ho:G.ob < w.heap.size):G.fr w w' :=
 ⟨Kept.of_below h,fun b hb=>.inl (by unfold outB at hb ⊢;rwa [h.cell (p:=⟨G.ob,0,none⟩) ho] at hb),hm,ho⟩
theorem Wk.fr.refl (hm:G.mb < w.heap.size) (ho:G.ob < w.heap.size):G.fr w w:=Wk.fr.of_below (zzb _ _) hm ho
theorem RdA.fr {size n c:Nat} {A:Option Addr} {xs:List Value} (h:RdA w (G.still w) size A n c xs) (f:G.fr w w'):RdA w' (G.still w') size A n c xs :=
 (h.go fun _ hb=>hb.heap f).mono fun _ hb=>hb.fr f
end
def ptrs (l:List Mean.Un):List Value:=l.map fun s=>.pointer (some ⟨s.ad,0,none⟩)
structure Wk.nd (G:Wk) (w:World) (n:Mean.Un) (ra:Option Addr) (rc:Nat) (sa:Option Addr) (sc:Nat):Prop where
 still:G.still w n.ad
 blk:Blk w n.ad 110 [.int .i64 n.kind,.slice ra n.rng.length rc,.int .i64 n.ast,.int .i64 n.ix,.bool n.lz,.slice sa n.subs.length sc]
 rng:RdA w (G.still w) 2 ra n.rng.length rc (flat n.rng)
 subs:RdA w (G.still w) 1 sa n.subs.length sc (ptrs n.subs)
structure Wk.wf (G:Wk):Prop where
 closed:Mean.Closed G.U
 cls:∀ n∈G.U,n.kind=2→rightB n.rng=true
 ast:∀ n∈G.U,n.kind=3→∃ j:Nat,j < 6∧n.ast=((2 ^ j:Nat):Int)
 grp:∀ n∈G.U,n.kind=7→0≤n.ix∧2*n.ix+1 < (G.NL:Int)
 one:∀ n∈G.U,n.kind=7∨n.kind=-1∨n.kind=-2∨n.kind=-3→n.subs≠[]
 few:∀ n∈G.U,n.subs.length≤1099511627776
 kinds:∀ n∈G.U,n.kind=1∨n.kind=2∨n.kind=3∨n.kind=4∨n.kind=5∨n.kind=7∨n.kind=-1∨n.kind=-2∨n.kind=-3
 nl:2≤G.NL∧G.NL≤1099511627776
 len:G.t.length=G.nt
 short:G.nt≤1099511627776
structure Wk.cst (G:Wk) (w:World):Prop where
 mb:G.mb < w.heap.size
 ob:G.ob < w.heap.size
 wb:G.still w G.wb∧Blk w G.wb 66 [.slice G.At G.nt G.ct,.map (some G.mb)]
 ab:G.still w G.ab∧w.cell? ⟨G.ab,0,none⟩=some (.int .i64 (G.at_:Int))
 text:RdA w (G.still w) 1 G.At G.nt G.ct (G.t.map (Value.int .i64))
 nodes:∀ n∈G.U,∃ ra rc sa sc,G.nd w n ra rc sa sc
section
variable {G:Wk} {w w':World} {n:Mean.Un} {ra sa:Option Addr} {rc sc:Nat}
theorem Blk.still {b:Nat} {t:TypeId} {cs:List Value} (h:Blk w b t cs) (hs:G.still w b) (f:G.fr w w'):Blk w' b t cs:=(hs.heap f).trans h
theorem Wk.nd.fr (h:G.nd w n ra rc sa sc) (f:G.fr w w'):G.nd w' n ra rc sa sc :=
 ⟨h.still.fr f,h.blk.still h.still f,h.rng.fr f,h.subs.fr f⟩
theorem Wk.cst.fr (h:G.cst w) (f:G.fr w w'):G.cst w' :=
 ⟨zzQ h.mb f.kept.size,zzQ h.ob f.kept.size,⟨h.wb.1.fr f,h.wb.2.still h.wb.1 f⟩,⟨h.ab.1.fr f,(h.ab.1.cell f 0).trans h.ab.2⟩,h.text.fr f,fun n hn=>by
  obtain ⟨ra,rc,sa,sc,hd⟩:=h.nodes n hn
  exact ⟨ra,rc,sa,sc,hd.fr f⟩⟩
theorem Wk.cst.refl (h:G.cst w):G.fr w w:=Wk.fr.refl h.mb h.ob
theorem Wk.cst.below (h:G.cst w) (hb:Below w.heap.size w w'):G.fr w w':=Wk.fr.of_below hb h.mb h.ob
end
def Wk.box (G:Wk) (w:World) (b:Nat) (v:Value):Prop:=G.still w b∧w.cell? ⟨b,0,none⟩=some v
def Wk.kv (G:Wk) (w:World):Mean.Kt→Value→Prop
 | .top,v=>v=.func (Fn.func 30) #[] #[.pointer (some ⟨G.ob,0,none⟩),.pointer (some ⟨G.ab,0,none⟩)]
 | .row l K,v=>∃ bw bl bb A c s v',v=.func (Fn.func 86) #[] #[.pointer (some ⟨bw,0,none⟩),.pointer (some ⟨bl,0,none⟩),.pointer (some ⟨bb,0,none⟩)] ∧
   G.box w bw (.pointer (some ⟨G.wb,0,none⟩))∧G.box w bl (.slice A (l.length+1) c)∧RdA w (G.still w) 1 A (l.length+1) c (ptrs (s :: l))∧(∀ x∈l,x∈G.U)∧G.box w bb v'∧G.kv w K v'
 | .grp i K,v=>∃ bb bn n v',v=.func (Fn.func 51) #[] #[.pointer (some ⟨bb,0,none⟩),.pointer (some ⟨bn,0,none⟩)] ∧
   G.box w bb v'∧G.kv w K v'∧G.box w bn (.pointer (some ⟨n.ad,0,none⟩))∧n∈G.U∧n.ix=i∧0≤i∧2*i+1 < (G.NL:Int)
 | .dec n K,v=>∃ f bw bn bb v',(f=54∨f=87)∧v=.func (Fn.func f) #[] #[.pointer (some ⟨bw,0,none⟩),.pointer (some ⟨bn,0,none⟩),.pointer (some ⟨bb,0,none⟩)] ∧
   G.box w bw (.pointer (some ⟨G.wb,0,none⟩))∧G.box w bn (.pointer (some ⟨n.ad,0,none⟩))∧n∈G.U∧G.box w bb v'∧G.kv w K v'
section
variable {G:Wk} {w w':World}
theorem Wk.box.fr {b:Nat} {v:Value} (h:G.box w b v) (f:G.fr w w'):G.box w' b v:=⟨h.1.fr f,(h.1.cell f 0).trans h.2⟩
theorem Wk.kv_fr (f:G.fr w w'):∀ {K:Mean.Kt} {v:Value},G.kv w K v→G.kv w' K v
 | .top,v,h=>h
 | .row l K,v,⟨bw,bl,bb,A,c,s,v',h0,h1,h2,h3,h4,h5,h6⟩=>⟨bw,bl,bb,A,c,s,v',h0,h1.fr f,h2.fr f,h3.fr f,h4,h5.fr f,Wk.kv_fr f h6⟩
 | .grp i K,v,⟨bb,bn,n,v',h0,h1,h2,h3,h4⟩=>⟨bb,bn,n,v',h0,h1.fr f,Wk.kv_fr f h2,h3.fr f,h4⟩
 | .dec n K,v,⟨g,bw,bn,bb,v',h,h0,h1,h2,h3,h4,h5⟩=>⟨g,bw,bn,bb,v',h,h0,h1.fr f,h2.fr f,h3,h4.fr f,Wk.kv_fr f h5⟩
end
def outW (l:List (Nat × Option Addr × Nat × List Int)):List Value:=l.flatMap fun p=>[.int .i64 (p.1:Int),.slice p.2.1 p.2.2.2.length p.2.2.1]
structure Wk.st (G:Wk) (w:World) (s:Mean.St):Prop where
 map:∃ es clock,w.heap[G.mb]?=some (.map es clock)∧MapOk (fun b=>∃ n∈G.U,n.ad=b) es clock s.met
 out:∃ v ps,Blk w G.ob 36 [v]∧w.ownsRow G.base 44 2 v s.out.length (outW ps)∧s.out=ps.map (fun p=>(p.1,p.2.2.2))∧(∀ p∈ps,RdA w (G.still w) 1 p.2.1 p.2.2.2.length p.2.2.1 (p.2.2.2.map (Value.int .i64))∧p.2.2.2.length=G.NL)
 met:∀ m,s.met m≤s.calls
 ends : (s.out.map (·.1)).Nodup ∧ ∀ p ∈ s.out, p.1 ≤ G.nt
theorem Wk.st.below {G:Wk} {w w':World} {s:Mean.St} (h:G.st w s) (hb:Below w.heap.size w w') (hm:G.mb < w.heap.size) (ho:G.ob < w.heap.size):G.st w' s:=by
 obtain ⟨⟨es,cl,h1,h2⟩,⟨v,ps,h3,h4,h5,h6⟩,h7,h8⟩:=h
 exact ⟨⟨es,cl,(hb.block _ hm).trans h1,h2⟩,⟨v,ps,h3.below hb ho,own_below h4 hb,h5,fun p hp=>⟨(h6 p hp).1.fr (Wk.fr.of_below hb hm ho),(h6 p hp).2⟩⟩,h7,h8⟩
def Wk.does (G:Wk) (s:Mean.St) (k:Mean.Task) (s':Mean.St):Prop :=
 match k with
 | .beg n pl nt K=>n∈G.U→pl≤G.nt→nt.length=G.NL→∀ (w:World) (v:Value) (N:Option Addr) (c:Nat),G.cst w→G.st w s→RdA w (G.still w) 1 N G.NL c (nt.map (Value.int .i64))→G.kv w K v →
   Calls Tryz.prog 28 #[.pointer (some ⟨G.wb,0,none⟩),.pointer (some ⟨n.ad,0,none⟩),.int .i64 (pl:Int),.slice N G.NL c,v] w fun e w'=>e=.returned (.tuple #[])∧G.fr w w'∧G.st w' s'
 | .dcd n pl nt K=>n∈G.U→pl≤G.nt→nt.length=G.NL→∀ (w:World) (v:Value) (N:Option Addr) (c:Nat),G.cst w→G.st w s→RdA w (G.still w) 1 N G.NL c (nt.map (Value.int .i64))→G.kv w K v →
   Calls Tryz.prog 53 #[.pointer (some ⟨G.wb,0,none⟩),.pointer (some ⟨n.ad,0,none⟩),.int .i64 (pl:Int),.slice N G.NL c,v] w fun e w'=>e=.returned (.tuple #[])∧G.fr w w'∧G.st w' s'
 | .go K pl nt=>pl≤G.nt→nt.length=G.NL→∀ (w:World) (v:Value) (N:Option Addr) (c:Nat),G.cst w→G.st w s→RdA w (G.still w) 1 N G.NL c (nt.map (Value.int .i64))→G.kv w K v →
   ∃ f caps,v=.func (Fn.func f) #[] caps∧(∀ args u,(callFunc f args).run Tryz.prog u=.ok (.enter f args) u)∧Calls Tryz.prog f (#[.int .i64 (pl:Int),.slice N G.NL c]++caps) w fun e w'=>e=.returned (.tuple #[])∧G.fr w w'∧G.st w' s'
def Wk.chain (G:Wk):Mean.St→List Mean.Task→Mean.St→Prop
 | s,[],s'=>s'=s
 | s,k :: l,s'=>∃ s1,G.does s k s1∧G.chain s1 l s'
theorem set_block_kept (w:World) (b:Nat) (o:Obj):Kept w (ChangeMaps.setBlock w b o) [b] :=
 ⟨rfl,rfl,rfl,by simp [ChangeMaps.setBlock],fun k hk hn=>by
  have:b≠k:=fun e=>hn (by simp [e])
  simp [ChangeMaps.setBlock,Array.getElem?_setIfInBounds,this]⟩
theorem set_block_at (w:World) (b:Nat) (o:Obj) (hb:b < w.heap.size):(ChangeMaps.setBlock w b o).heap[b]?=some o:=by
 simp [ChangeMaps.setBlock,Array.getElem?_setIfInBounds,hb]
theorem once_any (G:Wk) (w:World) (s:Mean.St) (m:Mean.Mark) (hc:G.cst w) (hs:G.st w s) (hm:∃ n∈G.U,n.ad=m.1) (hb:s.calls≤4611686018427387904) :
  Calls Tryz.prog 48 #[.pointer (some ⟨G.wb,0,none⟩),kv m] w fun e w'=>e=.returned (.bool (decide (s.met m=0)))∧G.fr w w'∧G.st w' (s.mark m):=by
 have hb1:Below w.heap.size w (w.alloc (.cells #[.pointer (some ⟨m.1,0,none⟩),.int .i64 (m.2.1:Int),.bool m.2.2] 107)):=(zzb _ _).alloc (zzF _) _
 have f1:G.fr w (w.alloc (.cells #[.pointer (some ⟨m.1,0,none⟩),.int .i64 (m.2.1:Int),.bool m.2.2] 107)):=hc.below hb1
 have HBL:=zzA (zyI w 107 [.pointer (some ⟨m.1,0,none⟩),.int .i64 (m.2.1:Int),.bool m.2.2])
 have HC1:=zzA (hc.fr f1)
 have HS1:=zzA (hs.below hb1 hc.mb hc.ob)
 have HF1:=zzA f1
 have HM:=zzA hm
 have hne:w.heap.size≠G.mb:=by have:=hc.mb;omega
 have hmet:=hs.met m
 clear hc hs hb1 f1 hm
 unfold kv
 go_enter Tryz.func48,Tryz.ntmps48
 go_wp2_with fail
 generalize hg:w.heap.size=g at *
 generalize hw1:w.alloc (.cells #[.pointer (some ⟨m.1,0,none⟩),.int .i64 (m.2.1:Int),.bool m.2.2] 107)=w1 at *
 have HMB:=zzA HC1.out.mb
 have HNB:=zzA (show ∀ b,(∃ n∈G.U,n.ad=b)→∃ cs t,w1.heap[b]?=some (Obj.cells cs t (0,0)) from fun b ⟨n,hn,e⟩=>by
  obtain ⟨ra,rc,sa,sc,hd⟩:=HC1.out.nodes n hn
  exact ⟨_,_,e ▸ hd.blk.raw⟩)
 have HNM:=zzA (show ∀ n∈G.U,n.ad≠G.mb from fun n hn e=>by
  obtain ⟨ra,rc,sa,sc,hd⟩:=HC1.out.nodes n hn
  exact hd.still.2 (mem_mut.2 (.inl e)))
 obtain ⟨⟨es,cl,hmap,hok⟩,hout,hall,hends⟩:=HS1.out
 have HENDS:=zzA hends
 clear hends
 have HOUT:=zzA hout
 have HALL:=zzA hall
 clear hout hall
 have hl1:=hok.lookup (w:=w1.drew) (m:=m) (fun b hb=>HNB.out b hb) HM.out hmap
 obtain ⟨v0,st,es1,cl1,he1,hok1,hst⟩:=hok.entry (w:=w1.drew) (m:=m) (fun b hb=>HNB.out b hb) HM.out hmap
 have k2:=set_block_kept w1.drew G.mb (.map es1 cl1)
 have hm2:=set_block_at w1.drew G.mb (.map es1 cl1) HMB.out
 generalize hw2:ChangeMaps.setBlock w1.drew G.mb (.map es1 cl1)=w2 at *
 have hN2:∀ b,(∃ n∈G.U,n.ad=b)→∃ cs t,w2.heap[b]?=some (Obj.cells cs t (0,0)):=fun b hb=>by
  obtain ⟨cs,t,h⟩:=HNB.out b hb
  obtain ⟨n,hn,e⟩:=hb
  have:=HNM.out n hn
  exact ⟨cs,t,(k2.block b ((Array.getElem?_eq_some_iff.1 h).1) (by rw [e] at this;simpa using this)).trans h⟩
 have hl2:=hok1.lookup (w:=w2) (m:=m) hN2 HM.out hm2
 obtain ⟨es3,cl3,he3,hok3⟩:=hst w2 hm2
 have k3:=set_block_kept w2 G.mb (.map es3 cl3)
 have hm3:=set_block_at w2 G.mb (.map es3 cl3) (zzQ HMB.out k2.size)
 generalize hw3:ChangeMaps.setBlock w2 G.mb (.map es3 cl3)=w3 at *
 have hl3:=hok3.lookup (w:=w3.drew) (m:=m) (fun b hb=>by
  obtain ⟨cs,t,h⟩:=hN2 b hb
  obtain ⟨n,hn,e⟩:=hb
  have:=HNM.out n hn
  exact ⟨cs,t,(k3.block b (Array.getElem?_eq_some_iff.1 h).1 (by rw [e] at this;simpa using this)).trans h⟩) HM.out hm3
 rw [if_pos rfl] at hl3
 have hgm:g≠G.mb:=hne
 have k13:Kept w1 w3 [G.mb]:=(((Kept.drew (L:=[])).trans k2).trans k3).more (by intro k hk;simp at hk;exact .inl (by simpa using hk))
 have HB3:=zzA (HBL.out.kept k13 (by simpa using hgm))
 have hwm:G.wb≠G.mb:=fun e=>HC1.out.wb.1.2 (mem_mut.2 (.inl e))
 have HW3:=zzA (HC1.out.wb.2.kept k13 (by simpa using hwm))
 obtain ⟨c0,c1,c2⟩:=bc3 (HBL.out)
 have a1:w1.drew.cell? ⟨G.wb,1,none⟩=some (.map (some G.mb)):=HC1.out.wb.2.cell 1
 obtain ⟨d0,d1,d2⟩:=bc3 (HB3.out)
 have e1:w3.drew.cell? ⟨G.wb,1,none⟩=some (.map (some G.mb)):=HW3.out.cell 1
 have hwr:IntKind.i64.wrap ((s.met m:Int)+1)=(s.met m:Int)+1:=by rw [zzx];omega
 have hone:((s.met m:Int)+1==1)=decide (s.met m=0):=by
  by_cases e:s.met m=0
  ·simp [e]
  ·simp [e];omega
 unfold kv at hl1 he1 hl2 hl3
 rw [goInt] at he1 he3
 have HMAP:=zzA hmap
 clear hst hok hok1 hmap hN2 hne hwm hm2 hgm
 have HOK3:=zzA hok3
 have HM3:=zzA hm3
 have HK:=zzA k13
 clear hok3 hm3 k2 k3 k13 hw2 hw3
 go_region
 all_goals (go_wp2_with fail)
 go_region
 go_wp2_with fail
 go_ret
 have hob:G.ob≠G.mb:=fun e=>by
  obtain ⟨v,ps,h,-⟩:=HOUT.out
  have h2:=h.raw
  rw [e,HMAP.out] at h2
  cases h2
 have hF:G.fr w1 w3.drew:=by
  refine ⟨(HK.out.trans (Kept.drew (L:=[]))).more fun k hk=>.inl (mem_mut.2 (.inl (by simpa using hk))),fun b hb=>.inl ?_,HMB.out,HC1.out.ob⟩
  unfold outB at hb ⊢
  rwa [show w3.drew.cell? ⟨G.ob,0,none⟩=w1.cell? ⟨G.ob,0,none⟩ from HK.out.cell (p:=⟨G.ob,0,none⟩) HC1.out.ob (by simpa using hob)] at hb
 refine ⟨rfl,HF1.out.trans hF,⟨⟨es3,cl3,HM3.out,HOK3.out⟩,?_,fun m'=>?_,HENDS.out⟩⟩
 ·obtain ⟨v,ps,h1,h2,h3,h4⟩:=HOUT.out
  refine ⟨v,ps,(h1.kept HK.out (by simpa using hob)).drew,(own_kept (w':=w3.drew) (L:=[G.mb]) h2 ((HK.out.trans (Kept.drew (L:=[]))).more fun k hk=>.inl (by simpa using hk)) fun b hb hbm=>?_),h3,fun p hp=>⟨(h4 p hp).1.fr hF,(h4 p hp).2⟩⟩
  simp only [zzE] at hbm
  subst hbm
  rcases h2.2 with ⟨rfl,_⟩ | ⟨b,cap,cur,rfl,_,hh,_⟩
  ·simp [Value.ownBlock] at hb
  ·obtain e:b=G.mb:=by simpa [Value.ownBlock] using hb
   rw [e,HMAP.out] at hh
   cases hh
 ·have:=HALL.out m'
  simp only [Mean.St.mark]
  split <;> omega
def Fr (B:Nat) (L:List Nat) (w:World):Nat→Prop:=fun b=>B≤b∧b < w.heap.size∧b ∉ L
section
variable {w w':World} {B B':Nat} {L L' M:List Nat} {t:Ta} {S:Nat→Prop}
theorem RT.fr_kept (h:RT w (Fr B L w) t) (k:Kept w w' M) (hM:∀ b∈M,b∈L∨w.heap.size≤b∨b < B) (hL:∀ b∈L',b∈L∨w.heap.size≤b∨b < B):RT w' (Fr B L' w') t:=by
 refine (h.go fun b hb=>k.block b hb.2.1 fun hm=>?_).mono fun b hb=>⟨hb.1,zzQ hb.2.1 k.size,fun hm=>?_⟩
 ·rcases hM b hm with e | e | e
  ·exact hb.2.2 e
  ·have:=hb.2.1;omega
  ·have:=hb.1;omega
 ·rcases hL b hm with e | e | e
  ·exact hb.2.2 e
  ·have:=hb.2.1;omega
  ·have:=hb.1;omega
theorem RT.fr_below (h:RT w (Fr B L w) t) (k:Below w.heap.size w w'):RT w' (Fr B L w') t :=
 h.fr_kept (Kept.of_below (L:=[]) k) (by simp) (fun b hb=>.inl hb)
theorem RT.fr_in (h:RT w (Fr B' [] w) t) (hB:B≤B') (hL:∀ b∈L,b < B'):RT w (Fr B L w) t :=
 h.mono fun b hb=>⟨zzU hB hb.1,hb.2.1,fun hm=>by have:=hL b hm;have:=hb.1;omega⟩
theorem RT.fr_less (h:RT w (Fr B L w) t) (hL:∀ b∈L',b∈L):RT w (Fr B L' w) t :=
 h.mono fun b hb=>⟨hb.1,hb.2.1,fun hm=>hb.2.2 (hL b hm)⟩
theorem RdA.fr_kept {size n c:Nat} {A:Option Addr} {xs:List Value} (h:RdA w (Fr B L w) size A n c xs) (k:Kept w w' M) (hM:∀ b∈M,b∈L∨w.heap.size≤b∨b < B) (hL:∀ b∈L',b∈L∨w.heap.size≤b∨b < B):RdA w' (Fr B L' w') size A n c xs:=by
 refine (h.go fun b hb=>k.block b hb.2.1 fun hm=>?_).mono fun b hb=>⟨hb.1,zzQ hb.2.1 k.size,fun hm=>?_⟩
 ·rcases hM b hm with e | e | e
  ·exact hb.2.2 e
  ·have:=hb.2.1;omega
  ·have:=hb.1;omega
 ·rcases hL b hm with e | e | e
  ·exact hb.2.2 e
  ·have:=hb.2.1;omega
  ·have:=hb.1;omega
theorem RdA.fr_below {size n c:Nat} {A:Option Addr} {xs:List Value} (h:RdA w (Fr B L w) size A n c xs) (k:Below w.heap.size w w'):RdA w' (Fr B L w') size A n c xs :=
 h.fr_kept (Kept.of_below (L:=[]) k) (by simp) (fun b hb=>.inl hb)
theorem RdA.of_own {base:Nat} {e:TypeId} {size n:Nat} {v:Value} {xs:List Value} (h:w.ownsRow base e size v n xs) (hn:∀ b,v.ownBlock=some b→b ∉ L):∃ A c,v=.slice A n c∧RdA w (Fr base L w) size A n c xs:=by
 rcases h.2 with ⟨rfl,rfl⟩ | ⟨g,cap,cur,rfl,hg,hh,hnc,hm,hsz,ht⟩
 ·refine ⟨none,0,rfl,zzF _,by omega,h.1,fun _=>rfl,fun h=>absurd h (by omega)⟩
 ·refine ⟨some ⟨g,0,none⟩,cap,rfl,hnc,by unfold maxLen at hm;omega,h.1,(fun h=>by cases h),fun _=>⟨g,0,rfl,⟨hg,(Array.getElem?_eq_some_iff.1 hh).1,hn g rfl⟩,fun j u hu=>?_⟩⟩
  rw [zzw,cell_of_row w g j cur e (0,0) hh]
  rw [←ht,List.getElem?_take] at hu
  split at hu
  ·simpa using hu
  ·cases hu
theorem Blk.of_own {base:Nat} {e:TypeId} {size n:Nat} {v:Value} {xs:List Value} (h:w.ownsRow base e size v n xs) (hn:0 < n):∃ g c zs,v=.slice (some ⟨g,0,none⟩) n c∧Blk w g e (xs++zs)∧base≤g∧n≤c∧c≤9223372036854775807:=by
 rcases h.2 with ⟨_,h0⟩ | ⟨g,cap,cur,rfl,hg,hh,hnc,hm,hsz,ht⟩
 ·omega
 ·refine ⟨g,cap,cur.toList.drop (n*size),rfl,?_,hg,hnc,by unfold maxLen at hm;omega⟩
  unfold Blk
  rw [←ht,List.take_append_drop,Array.toArray_toList]
  exact hh
theorem own_parts {base:Nat} {e:TypeId} {size n:Nat} {v:Value} {xs:List Value} (h:w.ownsRow base e size v n xs):∃ A c g zs,v=.slice A n c∧n≤c∧c≤9223372036854775807∧(A=none→c=0)∧base≤g∧(0 < n→A=some ⟨g,0,none⟩∧Blk w g e (xs++zs)):=by
 rcases Nat.eq_zero_or_pos n with h0 | h0
 ·obtain ⟨A,c,rfl,hr⟩:=RdA.of_own (L:=[]) h (by simp)
  exact ⟨A,c,base,[],rfl,hr.1,hr.2.1,hr.2.2.2.1,zzF _,fun h=>absurd h (by omega)⟩
 ·obtain ⟨g,c,zs,rfl,hb,hg,hn,hc⟩:=Blk.of_own h h0
  exact ⟨_,c,g,zs,rfl,hn,hc,(fun h=>by cases h),hg,fun _=>⟨rfl,hb⟩⟩
theorem set_next {us l:List Ta} {i:Nat} {u:Ta} (hl:us.length=i) (hi:i < l.length):(us++l.drop i).set i u=(us++[u])++l.drop (i+1):=by
 rw [List.set_append_right _ _ (by omega),hl,Nat.sub_self,zyF,List.drop_eq_getElem_cons hi]
 rfl
theorem get_next {us l:List Ta} {i:Nat} {u:Ta} (hl:us.length=i) (hu:l[i]?=some u):(us++l.drop i)[i]?=some u:=by
 rw [zzz (by omega),hl,Nat.sub_self,List.getElem?_drop]
 simpa using hu
theorem Ta.one (t:Ta):∀ u∈t.vals,u.oneCell'=true:=by
 cases t with
 | mk k r ra rc ast l sa sc mn mx z ix nm =>
  intro u hu
  simp only [Ta.vals,zzN,zyA,or_false] at hu
  rcases hu with rfl | rfl | rfl | rfl | rfl | rfl | rfl | rfl | rfl <;> rfl
theorem rowT_one (l:List Ta):∀ u∈rowT l,u.oneCell'=true:=by
 intro u hu
 unfold rowT at hu
 obtain ⟨t,_,ht⟩:=zzs.1 hu
 exact t.one u ht
theorem rowT_set {l:List Ta} {i:Nat} (hi:i < l.length) (zs:List Value) (k:Value) (r a s n m z x nm:Value) (u:Ta) (hu:u.vals=[k,r,a,s,n,m,z,x,nm]) :
  (((((((((rowT l++zs).set (i*9) k).set (i*9+1) r).set (i*9+2) a).set (i*9+3) s).set (i*9+4) n).set (i*9+5) m).set (i*9+6) z).set (i*9+7) x).set (i*9+8) nm=rowT (l.set i u)++zs:=by
 have hlen:=rowT_length l
 have hlen2:=rowT_length (l.set i u)
 rw [zzu] at hlen2
 refine List.ext_getElem? fun j=>?_
 have hgo:∀ q,q < 9→(rowT (l.set i u))[i*9+q]?=u.vals[q]?:=fun q hq=>rowT_get _ _ _ _ (by rw [List.getElem?_set_self hi]) hq
 have hfar:∀ j,j < l.length*9→(j < i*9∨i*9+9≤j)→(rowT (l.set i u))[j]?=(rowT l)[j]?:=by
  intro j hj hor
  have hq:j / 9 < l.length:=by omega
  have e:j=j / 9*9+j % 9:=by omega
  have hne:i≠j / 9:=by omega
  rw [e]
  rw [rowT_get l (j / 9) (j % 9) _ (zzJ hq) (by omega)]
  exact rowT_get _ _ _ _ (by rw [zzr hne,zzJ hq]) (by omega)
 by_cases hj:j < l.length*9
 ·have hap:(rowT (l.set i u)++zs)[j]?=(rowT (l.set i u))[j]?:=List.getElem?_append_left (by rw [hlen2];exact hj)
  rw [hap]
  by_cases hor:j < i*9∨i*9+9≤j
  ·rw [hfar j hj hor]
   rw [zzr (by omega),zzr (by omega),zzr (by omega),zzr (by omega),zzr (by omega),zzr (by omega),zzr (by omega),zzr (by omega),zzr (by omega)]
   rw [List.getElem?_append_left (by rw [hlen];exact hj)]
  ·obtain ⟨q,hq,rfl⟩:∃ q,q < 9∧j=i*9+q:=⟨j - i*9,by omega,by omega⟩
   rw [hgo q hq,hu]
   have hl9:∀ q',q' < 9→i*9+q' < (rowT l++zs).length:=fun q' hq'=>by rw [zzG,hlen];omega
   have h00:=hl9 0 (by omega)
   rw [Nat.add_zero] at h00
   rcases (show q=0∨q=1∨q=2∨q=3∨q=4∨q=5∨q=6∨q=7∨q=8 from by omega) with rfl | rfl | rfl | rfl | rfl | rfl | rfl | rfl | rfl
   all_goals simp [List.getElem?_set]
   all_goals (rw [hlen];omega)
 ·rw [zzr (by omega),zzr (by omega),zzr (by omega),zzr (by omega),zzr (by omega),zzr (by omega),zzr (by omega),zzr (by omega),zzr (by omega)]
  rw [zzz (by rw [hlen];omega),zzz (by rw [hlen2];omega),hlen,hlen2]
theorem Blk.set9 {g:Nat} {ty:TypeId} {l:List Ta} {zs:List Value} {i:Nat} (h:Blk w g ty (rowT l++zs)) (hi:i < l.length) {k r a s n m z x nm:Value} {u:Ta} (hu:u.vals=[k,r,a,s,n,m,z,x,nm]) :
  Blk (((((((((w.setCell ⟨g,i*9,none⟩ k).setCell ⟨g,i*9+1,none⟩ r).setCell ⟨g,i*9+2,none⟩ a).setCell ⟨g,i*9+3,none⟩ s).setCell ⟨g,i*9+4,none⟩ n).setCell ⟨g,i*9+5,none⟩ m).setCell ⟨g,i*9+6,none⟩ z).setCell ⟨g,i*9+7,none⟩ x).setCell ⟨g,i*9+8,none⟩ nm) g ty (rowT (l.set i u)++zs):=by
 rw [←rowT_set hi zs k r a s n m z x nm u hu]
 exact ((((((((h.set_ (i*9) k).set_ (i*9+1) r).set_ (i*9+2) a).set_ (i*9+3) s).set_ (i*9+4) n).set_ (i*9+5) m).set_ (i*9+6) z).set_ (i*9+7) x).set_ (i*9+8) nm
theorem kept9 (w:World) (g i:Nat) (k r a s n m z x nm:Value) :
  Kept w (((((((((w.setCell ⟨g,i,none⟩ k).setCell ⟨g,i+1,none⟩ r).setCell ⟨g,i+2,none⟩ a).setCell ⟨g,i+3,none⟩ s).setCell ⟨g,i+4,none⟩ n).setCell ⟨g,i+5,none⟩ m).setCell ⟨g,i+6,none⟩ z).setCell ⟨g,i+7,none⟩ x).setCell ⟨g,i+8,none⟩ nm) [g] :=
 (((((((((zyG ⟨g,i,none⟩ k).trans (zyG ⟨g,i+1,none⟩ r)).trans (zyG ⟨g,i+2,none⟩ a)).trans (zyG ⟨g,i+3,none⟩ s)).trans (zyG ⟨g,i+4,none⟩ n)).trans (zyG ⟨g,i+5,none⟩ m)).trans (zyG ⟨g,i+6,none⟩ z)).trans (zyG ⟨g,i+7,none⟩ x)).trans (zyG ⟨g,i+8,none⟩ nm)).more (by intro b hb;simp at hb;exact .inl (by simp [hb]))
end
end Go.Proofs.YtgkclnmmjedmkaaGreat
namespace Go.Proofs.YtgkclnmmjedmkaaGreat
open Go.RowKit Mach
def insVals (I:Ins) (A:Option Addr) (n c:Nat):List Value:=[.int .i64 I.op,.int .i64 I.x,.int .i64 I.y,.int .i64 I.arg,.slice A n c]
structure InV where
 I:Ins
 A:Option Addr
 n:Nat
 c:Nat
def insRow (L:List InV):List Value:=L.flatMap fun v=>insVals v.I v.A v.n v.c
theorem insRow_length (L:List InV):(insRow L).length=L.length*5:=by
 induction L with
 | nil=>rfl
 | cons v L ih=>simp only [insRow,zzl,zzG,zzO] at *;rw [ih,show (insVals v.I v.A v.n v.c).length=5 from rfl];omega
theorem insRow_get:∀ (L:List InV) (j q:Nat) (v:InV),L[j]?=some v→q < 5→(insRow L)[j*5+q]?=(insVals v.I v.A v.n v.c)[q]?
 | [],j,q,v,h,_=>by simp at h
 | u :: L,0,q,v,h,hq=>by
  simp only [zzR,zzd] at h
  subst h
  simp only [insRow,zzl,Nat.zero_mul,zzw]
  exact List.getElem?_append_left (by simpa [insVals] using hq)
 | u :: L,j+1,q,v,h,hq=>by
  have:=insRow_get L j q v (by simpa using h) hq
  have e1:(j+1)*5+q=5+(j*5+q):=by omega
  rw [e1]
  simp only [insRow,zzl]
  rw [zzz (by simp [insVals]),←this]
  simp [insVals,insRow]
def ReadsP (w:World) (B:Nat) (A:Option Addr) (n c:Nat) (L:List InV):Prop:=Reads w B 5 A n c (insRow L)∧∀ v∈L,Reads w B 2 v.A v.n v.c (flat v.I.rng)∧(v.A=none→v.c=0)
def insL (L:List InV):List Ins:=L.map (·.I)
section
variable {w w':World} {B B' n c:Nat} {A:Option Addr} {L:List InV}
theorem ReadsP.below (h:ReadsP w B A n c L) (hb:Below B w w'):ReadsP w' B A n c L:=⟨h.1.below hb,fun v hv=>⟨(h.2 v hv).1.below hb,(h.2 v hv).2⟩⟩
theorem ReadsP.more (h:ReadsP w B A n c L) (hB:B≤B'):ReadsP w B' A n c L:=⟨h.1.more hB,fun v hv=>⟨(h.2 v hv).1.more hB,(h.2 v hv).2⟩⟩
theorem ReadsP.len (h:ReadsP w B A n c L):L.length=n:=by have:=h.1.len;rw [insRow_length] at this;omega
theorem ReadsP.cells {b off:Nat} (h:ReadsP w B (some ⟨b,off,none⟩) n c L) {j:Nat} {v:InV} (hv:L[j]?=some v) :
  w.cell? ⟨b,off+j*5,none⟩=some (.int .i64 v.I.op)∧w.cell? ⟨b,off+j*5+1,none⟩=some (.int .i64 v.I.x)∧w.cell? ⟨b,off+j*5+2,none⟩=some (.int .i64 v.I.y) ∧
  w.cell? ⟨b,off+j*5+3,none⟩=some (.int .i64 v.I.arg)∧w.cell? ⟨b,off+j*5+4,none⟩=some (.slice v.A v.n v.c):=by
 have g:∀ q u,q < 5→(insVals v.I v.A v.n v.c)[q]?=some u→w.cell? ⟨b,off+j*5+q,none⟩=some u:=fun q u hq hu=>by
  rw [zzy]
  exact h.1.cellAt ((insRow_get L j q v hv hq).trans hu)
 exact ⟨g 0 _ (by omega) rfl,g 1 _ (by omega) rfl,g 2 _ (by omega) rfl,g 3 _ (by omega) rfl,g 4 _ (by omega) rfl⟩
theorem ReadsP.at_ (h:ReadsP w B A n c L) (hn:0 < n):∃ b off,A=some ⟨b,off,none⟩∧b < B:=by
 obtain ⟨b,off,e,hb,_⟩:=h.1.at_ hn
 exact ⟨b,off,e,hb⟩
end
end Go.Proofs.YtgkclnmmjedmkaaGreat
namespace Go.Proofs.YtgkclnmmjedmkaaGreat.Mean
open Go.Proofs.YtgkclnmmjedmkaaGreat.Mach
section
variable (t:List Int)
variable {t}
variable {at_:Nat}
def St.ends (s:St) (j:Nat):Prop:=∃ p∈s.out,p.1=j
theorem ended_ends {s:St} {pl:Nat} {nt:List Int} {j:Nat}:(ended at_ s pl nt).ends j ↔ s.ends j∨j=pl:=by
 unfold ended
 split
 ·rename_i h
  refine ⟨.inl,fun hh=>hh.elim id fun e=>?_⟩
  obtain ⟨p,hp,e2⟩:=List.any_eq_true.1 h
  exact ⟨p,hp,by subst e;simpa using e2⟩
 ·unfold St.ends
  simp only [zzM,zzE]
  constructor
  ·rintro ⟨p,hp | rfl,rfl⟩
   ·exact .inl ⟨p,hp,rfl⟩
   ·exact .inr rfl
  ·rintro (⟨p,hp,rfl⟩ | rfl)
   ·exact ⟨p,.inl hp,rfl⟩
   ·exact ⟨_,.inr rfl,rfl⟩
structure Grows (s s':St):Prop where
 met:∀ m,0 < s.met m→0 < s'.met m
 ends : ∀ j, s.ends j → s'.ends j
theorem Grows.refl (s:St):Grows s s:=⟨fun _ h=>h,fun _ h=>h⟩
theorem Grows.trans {s s1 s2:St} (h:Grows s s1) (g:Grows s1 s2):Grows s s2:=⟨fun m hm=>g.met m (h.met m hm),fun j hj=>g.ends j (h.ends j hj)⟩
theorem grows_mark (s:St) (m:Mark):Grows s (s.mark m):=⟨fun x hx=>by unfold St.mark;simp only [];split <;> omega,fun j h=>h⟩
theorem work_grows (s:St) (k:Task):Grows s (work t at_ s k).1:=by
 cases k with
 | beg n pl nt K=>exact grows_mark _ _
 | dcd n pl nt K=>exact grows_mark _ _
 | go K pl nt =>
  cases K with
  | top=>exact ⟨fun m hm=>by simp only [work,ended];split <;> exact hm,fun j hj=>ended_ends.2 (.inl hj)⟩
  | row l K=>exact Grows.refl _
  | grp i K=>exact Grows.refl _
  | dec n K=>exact Grows.refl _
mutual
theorem one_grows:∀ {s s':St} {k:Task},One t at_ s k s'→Grows s s'
 | s,_,k,.mk h=>(work_grows s k).trans (many_grows h)
theorem many_grows:∀ {s s':St} {l:List Task},Many t at_ s l s'→Grows s s'
 | s,_,[],.nil=>Grows.refl s
 | _,_,_ :: _,.cons h1 h2=>(one_grows h1).trans (many_grows h2)
end
def Un.Loops (n:Un):Prop:=n.kind=-2∨n.kind=-3
def rowSt (P:Un→Kt→Prop) (K:Kt):List Un→Prop
 | []=>True
 | s :: l=>P s (.row l K)∧rowSt P K l
def KSt (P:Un→Kt→Prop):Kt→Prop
 | .top=>True
 | .row l K=>rowSt P K l∧KSt P K
 | .grp _ K=>KSt P K
 | .dec n K=>(P n K∧n.Loops)∧KSt P K
def TSt (P:Un→Kt→Prop):Task→Prop
 | .beg n _ _ K=>P n K
 | .dcd n _ _ K=>P n K∧n.Loops
 | .go K _ _=>KSt P K
structure Place (t:List Int) (P:Un→Kt→Prop):Prop where
 one:∀ n K n' K',P n K→P n' K'→n.ad=n'.ad→n=n'∧K=K'
 first:∀ n K,P n K→∀ pl nt,∀ x∈first t n pl nt K,TSt P x
 decide:∀ n K,P n K→n.Loops→∀ pl nt,∀ x∈choose n pl nt (.dec n K) K,TSt P x
 behind:∀ n K,P n K→KSt P K
end
end Go.Proofs.YtgkclnmmjedmkaaGreat.Mean
