/- meaning.Parses: what stands when the walk begins. -/
import Derived.Test.YtgkclnmmjedmkaaGreatP10
import Derived.Test.YtgkclnmmjedmkaaGreatP12
namespace Go.Proofs.YtgkclnmmjedmkaaGreat
open Go.RowKit Tr
theorem wf_start {G:Wk} {u:Mean.Un} {t:Tr.Tr} (hU:G.U=u.all) (hsh:shU u=unfS t) (hall:allB t=true) (hd:deep t≤10001) (hz:uz t≤2000) (hNL:G.NL=2+2*(greatest t).toNat) (hg:0≤greatest t∧greatest t≤500) (hlen:G.t.length=G.nt) (hnt:G.nt≤1099511627776):G.wf:=by
 have hok:=all_ok u (g:=greatest t) (by rw [hsh];exact unf_ok t hall)
 have hsz:u.all.length≤1099511627776:=by
  rw [all_len,hsh]
  have h1:=sz_le t 10001 hall hd
  have h2:2*10001*uz t≤2*10001*2000:=Nat.mul_le_mul_left _ hz
  omega
 refine ⟨?_,?_,?_,?_,?_,?_,?_,?_,hlen,hnt⟩
 ·rw [hU];exact fun n hn s hs=>all_closed u n hn s hs
 ·intro n hn hk;rw [hU] at hn;exact (hok n hn).2.1 hk
 ·intro n hn hk;rw [hU] at hn;exact (hok n hn).2.2.1 hk
 ·intro n hn hk
  rw [hU] at hn
  have:=(hok n hn).2.2.2.1 hk
  rw [hNL]
  omega
 ·intro n hn hk
  rw [hU] at hn
  have:=(hok n hn).2.2.2.2 hk
  intro e
  rw [e] at this
  simp at this
 ·intro n hn
  rw [hU] at hn
  exact zzU (mem_few u n hn) hsz
 ·intro n hn;rw [hU] at hn;exact (hok n hn).1
 ·rw [hNL];omega
theorem start_ok {G:Wk} {w:World} {u:Mean.Un} {S T:Nat→Prop} (hU:G.U=u.all) (hm:w.heap[G.mb]?=some (.map #[] 0)) (hob:Blk w G.ob 36 [.slice none 0 0]) (hwb:Blk w G.wb 66 [.slice G.At G.nt G.ct,.map (some G.mb)])
  (hab:w.cell? ⟨G.ab,0,none⟩=some (.int .i64 (G.at_:Int))) (hne:G.wb≠G.ob∧G.ab≠G.mb∧G.ab≠G.ob) (htx:RdA w S 1 G.At G.nt G.ct (G.t.map (Value.int .i64))) (hut:UT w S T u)
  (hS:∀ b,S b→b < w.heap.size∧b≠G.mb∧b≠G.ob) (hT:∀ b,T b→b < w.heap.size∧b≠G.mb∧b≠G.ob):G.cst w∧G.st w st0:=by
 have hout:outB G.ob w=none:=by unfold outB;rw [hob.cell 0];rfl
 have hst:∀ b,b < w.heap.size→b≠G.mb→b≠G.ob→G.still w b:=fun b h1 h2 h3=>⟨h1,fun hx=>by
  rcases mem_mut.1 hx with e | e | e
  ·exact h2 e
  ·exact h3 e
  ·rw [hout] at e;cases e⟩
 have hmb:G.mb < w.heap.size:=(Array.getElem?_eq_some_iff.1 hm).1
 have hwm:G.wb≠G.mb:=fun e=>by
  have:=hwb.raw
  rw [e,hm] at this
  cases this
 have hS':∀ b,S b→G.still w b:=fun b hb=>hst b (hS b hb).1 (hS b hb).2.1 (hS b hb).2.2
 have hT':∀ b,T b→G.still w b:=fun b hb=>hst b (hT b hb).1 (hT b hb).2.1 (hT b hb).2.2
 refine ⟨⟨hmb,hob.lt,⟨hst _ hwb.lt hwm hne.1,hwb⟩,⟨hst _ (zze w _ hab) hne.2.1 hne.2.2,hab⟩,htx.mono hS',fun n hn=>?_⟩,⟨⟨#[],0,hm,⟨MapKept.stamped_empty 0,by simp,fun m h=>by simp [st0] at h⟩⟩,⟨.slice none 0 0,[],hob,World.ownsRow_nil _ _ _ _,rfl,by simp⟩,fun m=>zzF _,by simp [st0]⟩⟩
 rw [hU] at hn
 obtain ⟨ra,rc,sa,sc,h⟩:=hut.nodes n hn
 exact ⟨ra,rc,sa,sc,hT' _ h.ad,h.blk,h.rng.mono hS',h.subs.mono hT'⟩
theorem marks_len (U:List Mean.Un) (P:Nat):(Mean.marks U P).length=U.length*((P+1)*2):=by
 unfold Mean.marks
 induction U with
 | nil=>simp
 | cons n U ih =>
  rw [zzl,zzG,ih,zzO,Nat.add_mul U.length 1,Nat.one_mul]
  have:((List.range (P+1)).flatMap fun p=>[(n.ad,p,false),(n.ad,p,true)]).length=(P+1)*2:=by
   generalize P+1=Q
   induction Q with
   | zero=>rfl
   | succ Q ih=>rw [List.range_succ,List.flatMap_append,zzG,ih,Nat.succ_mul];rfl
  omega
theorem walk_ex {G:Wk} {u:Mean.Un} (hU:G.U=u.all) (hwf:G.wf) (hsz:u.all.length≤40004000) (hnt:G.nt≤64) (pl:Nat) (hpl:pl≤G.nt) (nt:List Int) :
  ∃ s',Mean.One G.t G.at_ st0 (.beg u pl nt .top) s'∧s'.calls≤4611686018427387904:=by
 have hself:u∈G.U:=by rw [hU,Mean.all_subs];exact zzH
 have huse:(Mean.Task.beg u pl nt .top).uses G.U G.t.length:=⟨hself,by rw [hwf.len];exact hpl,trivial⟩
 obtain ⟨s',h1,-⟩:=Mean.one_total (t:=G.t) (at_:=G.at_) hwf.closed (Mean.unmet G.U G.t.length st0) 0 st0 (.beg u pl nt .top) (zzF _) (zzF _) huse
 refine ⟨s',h1,?_⟩
 have h2:=Mean.one_calls hwf.closed (M:=u.all.length+2) (by omega) (fun n hn=>by rw [hU] at hn;have:=mem_few u n hn;omega) h1 huse
 have h3:Mean.unmet G.U G.t.length st0≤u.all.length*((G.nt+1)*2):=by
  rw [←hU,←hwf.len,←marks_len]
  exact List.countP_le_length
 have h4:u.all.length*((G.nt+1)*2)≤40004000*130:=Nat.mul_le_mul hsz (by omega)
 have h5:(u.all.length+2)*Mean.unmet G.U G.t.length st0≤40004002*(40004000*130):=Nat.mul_le_mul (by omega) (zzU h3 h4)
 have h6:st0.calls=0:=rfl
 omega
theorem walk_any {G:Wk} {u:Mean.Un} (hU:G.U=u.all) (hwf:G.wf) (hbase:∀ w,G.cst w→G.base≤w.heap.size) (hsz:u.all.length≤40004000) (hnt:G.nt≤64) (pl:Nat) (hpl:pl≤G.nt) (nt:List Int) (hlen:nt.length=G.NL) (w:World) (N:Option Addr) (c:Nat)
  (hc:G.cst w) (hs:G.st w st0) (hr:RdA w (G.still w) 1 N G.NL c (nt.map (Value.int .i64))) :
  Calls Tryz.prog 28 #[.pointer (some ⟨G.wb,0,none⟩),.pointer (some ⟨u.ad,0,none⟩),.int .i64 (pl:Int),.slice N G.NL c,.func (Fn.func 30) #[] #[.pointer (some ⟨G.ob,0,none⟩),.pointer (some ⟨G.ab,0,none⟩)]] w fun e w' =>
   e=.returned (.tuple #[])∧G.fr w w'∧∃ s',Mean.One G.t G.at_ st0 (.beg u pl nt .top) s'∧G.st w' s':=by
 obtain ⟨s',h1,h2⟩:=walk_ex hU hwf hsz hnt pl hpl nt
 have hself:u∈G.U:=by rw [hU,Mean.all_subs];exact zzH
 have hd:=one_does G hwf hbase h1 ⟨hself,by rw [hwf.len];exact hpl,trivial⟩ trivial h2
 exact (hd hself hpl hlen w _ N c hc hs hr rfl).mono fun e w' ⟨e1,e2,e3⟩=>⟨e1,e2,s',h1,e3⟩
def Came (t:List Int) (at_ g0 o:Nat) (u:Mean.Un) (w':World):Prop :=
 ∃ (A:Option Addr) (oc:Nat) (ps:List (Nat × Option Addr × Nat × List Int)) (s':Mean.St),Mean.One t at_ st0 (.beg u at_ (List.replicate (2+2*g0) (-1)) .top) s'∧s'.out=ps.map (fun p=>(p.1,p.2.2.2)) ∧
  w'.cell? ⟨o,0,none⟩=some (.slice A ps.length oc)∧Reads w' w'.heap.size 2 A ps.length oc (outW ps)∧(∀ p∈ps,Reads w' w'.heap.size 1 p.2.1 p.2.2.2.length p.2.2.1 (p.2.2.2.map (Value.int .i64))∧p.2.2.2.length=2+2*g0)∧(s'.out.map (·.1)).Nodup∧∀ p∈s'.out,p.1≤t.length
theorem parses_walk {B n c g0 at_ o nb:Nat} {At:Option Addr} {t:List Int} {tr:Tr.Tr} {u:Mean.Un} {S T:Nat→Prop} {w:World}
  (hso:soundB tr=true) (hz:uz tr≤2000) (hg:greatest tr=(g0:Int)) (hg5:g0≤500) (hsh:shU u=unfS tr) (hat:at_≤n) (hn:n≤64) (htl:t.length=n)
  (hB:B+1 < o) (hm:w.heap[o+1]?=some (.map #[] 0)) (hob:Blk w o 36 [.slice none 0 0]) (hwb:Blk w (o+1+1) 66 [.slice At n c,.map (some (o+1))])
  (hab:w.cell? ⟨B+1,0,none⟩=some (.int .i64 (at_:Int))) (htx:RdA w S 1 At n c (t.map (Value.int .i64))) (hS:∀ b,S b→b < B) (hut:UT w S T u) (hT:∀ b,T b→b < w.heap.size∧o+1+1 < b)
  (hnb:Blk w nb 3 (List.replicate (2+2*g0) (.int .i64 (-1)))) (hno:o+1+1 < nb) :
  Calls Tryz.prog 28 #[.pointer (some ⟨o+1+1,0,none⟩),.pointer (some ⟨u.ad,0,none⟩),.int .i64 (at_:Int),.slice (some ⟨nb,0,none⟩) (2+2*g0) (2+2*g0),.func (Fn.func 30) #[] #[.pointer (some ⟨o,0,none⟩),.pointer (some ⟨B+1,0,none⟩)]] w fun e w' =>
   e=.returned (.tuple #[])∧Below o w w'∧Came t at_ g0 o u w':=by
 obtain ⟨hall,hdp,-⟩:=sound_all hso
 let G:Wk:=⟨o,o+1+1,o+1,o,B+1,At,n,c,t,at_,2+2*g0,u.all⟩
 have hgt:(greatest tr).toNat=g0:=by rw [hg];rfl
 have hwf:G.wf:=wf_start (G:=G) rfl hsh hall (by omega) hz (by show 2+2*g0=_;rw [hgt]) (by omega) htl (by show n≤_;omega)
 have holt:=hob.lt
 have hmlt:o+1 < w.heap.size:=(Array.getElem?_eq_some_iff.1 hm).1
 obtain ⟨hc,hs⟩:=start_ok (G:=G) (w:=w) (u:=u) (S:=S) (T:=T) rfl hm hob hwb hab (by show o+1+1≠o∧B+1≠o+1∧B+1≠o;omega) htx hut
  (fun b hb=>by have:=hS b hb;show b < w.heap.size∧b≠o+1∧b≠o;omega) (fun b hb=>by have:=hT b hb;show b < w.heap.size∧b≠o+1∧b≠o;omega)
 have hout:outB o w=none:=by unfold outB;rw [hob.cell 0];rfl
 have hst:G.still w nb:=⟨hnb.lt,fun hx=>by
  rcases mem_mut.1 hx with e | e | e
  ·have e':nb=o+1:=e;omega
  ·have e':nb=o:=e;omega
  ·have e':outB o w=some nb:=e;rw [hout] at e';cases e'⟩
 have hsz:u.all.length≤40004000:=by
  rw [all_len,hsh]
  have h1:=sz_le tr 10001 hall (by omega)
  have h2:2*10001*uz tr≤2*10001*2000:=Nat.mul_le_mul_left _ hz
  omega
 have hr:RdA w (G.still w) 1 (some ⟨nb,0,none⟩) G.NL (2+2*g0) ((List.replicate (2+2*g0) (-1:Int)).map (Value.int .i64)):=by
  refine ⟨zzF _,by omega,by rw [zzP,zyC];show _=(2+2*g0)*1;omega,fun h=>(by cases h),fun _=>⟨nb,0,rfl,hst,fun j v hv=>?_⟩⟩
  rw [zzw,hnb.cell j,←hv,List.map_replicate]
 refine (walk_any (G:=G) (u:=u) rfl hwf (fun w hw=>zzo hw.ob) hsz hn at_ hat (List.replicate (2+2*g0) (-1)) (by rw [zyC]) w (some ⟨nb,0,none⟩) (2+2*g0) hc hs hr).mono ?_
 rintro e w' ⟨rfl,hf,s',h1,hs'⟩
 refine ⟨rfl,hf.kept.below (fun k hk=>?_) (zzo holt),?_⟩
 ·rcases mem_mut.1 hk with e | e | e
  ·have e':k=o+1:=e;omega
  ·have e':k=o:=e;omega
  ·have e':outB o w=some k:=e;rw [hout] at e';cases e'
 ·obtain ⟨-,⟨v,ps,hb,hown,hps,hrd⟩,-,hnd,hle⟩:=hs'
  obtain ⟨A,oc,rfl⟩:=own_shape hown
  have hlen:s'.out.length=ps.length:=by rw [hps,zzP]
  rw [hlen] at hown hb
  refine ⟨A,oc,ps,s',h1,hps,hb.cell 0,Reads.of_own hown,fun p hp=>?_,hnd,fun p hp=>by rw [htl];exact hle p hp⟩
  have:=hrd p hp
  exact ⟨this.1.reads fun b hb=>hb.1,this.2⟩
end Go.Proofs.YtgkclnmmjedmkaaGreat
namespace Go.Proofs.YtgkclnmmjedmkaaGreat
open Mach
namespace Mean
theorem allU_app (a b:List Un):allU (a++b)=allU a++allU b:=by rw [allU_flat,allU_flat,allU_flat,List.flatMap_append]
theorem all_in_allU {s:Un} {l:List Un} (h:s∈l):s.all.Sublist (allU l):=by
 obtain ⟨a,b,rfl⟩:=List.append_of_mem h
 rw [allU_app,allU]
 exact (List.sublist_append_left _ _).trans (List.sublist_append_right _ _)
theorem self_all (u:Un):u∈u.all:=by rw [all_subs];exact zzH
theorem sub_allU {s:Un} {l:List Un} (h:s∈l):s∈allU l:=(all_in_allU h).subset (self_all s)
theorem pos_all:∀ (u:Un) (K:Kt),(posU u K).map (·.1)=u.all:=by
 intro u
 induction u using Un.ind with
 | h u ih =>
  intro K
  have hR:∀ (l:List Un),(∀ s∈l,∀ K,(posU s K).map (·.1)=s.all)→∀ K,(posR l K).map (·.1)=allU l:=by
   intro l
   induction l with
   | nil=>intro _ K;rfl
   | cons s l ihl =>
    intro h K
    rw [posR,allU,zzT,h s zzH,ihl fun x hx=>h x (zzI _ hx)]
  have hA:∀ (l:List Un),(∀ s∈l,∀ K,(posU s K).map (·.1)=s.all)→∀ K,(posA l K).map (·.1)=allU l:=by
   intro l
   induction l with
   | nil=>intro _ K;rfl
   | cons s l ihl =>
    intro h K
    rw [posA,allU,zzT,h s zzH,ihl fun x hx=>h x (zzI _ hx)]
  rw [posU_eq,all_subs,zzS]
  unfold kids
  split
  ·rw [hR u.subs ih]
  ·rw [hA u.subs ih]
theorem inT_ex {root n:Un} (h:n∈root.all):∃ K,InT root n K:=by
 rw [←pos_all root .top] at h
 obtain ⟨⟨n',K⟩,hq,rfl⟩:=zzp.1 h
 exact ⟨K,hq⟩
theorem inT_all {root n:Un} {K:Kt} (h:InT root n K):n∈root.all:=by
 rw [←pos_all root .top]
 exact zzp.2 ⟨(n,K),h,rfl⟩
def kall:Kt→List Un
 | .top=>[]
 | .row l K=>allU l++kall K
 | .grp _ K=>kall K
 | .dec _ K=>kall K
theorem kall_kid (n:Un) (K:Kt):kall (kidK n K)=kall K:=by
 unfold kidK
 split
 ·rfl
 ·split <;> rfl
theorem pos_nd:∀ (u:Un) (K:Kt),((u.all++kall K).map Un.ad).Nodup→∀ q∈posU u K,((q.1.all++kall q.2).map Un.ad).Nodup:=by
 intro u
 induction u using Un.ind with
 | h u ih =>
  intro K hnd q hq
  rw [posU_eq,zzN] at hq
  rcases hq with rfl | hq
  ·exact hnd
  ·unfold kids at hq
   split at hq
   ·obtain ⟨a,s,b,hs,hq⟩:=mem_posR hq
    refine ih s (by rw [hs];simp) (.row b K) (hnd.sublist (List.Sublist.map _ ?_)) q hq
    rw [all_subs u,hs,allU_app,allU,kall,←zyF]
    refine List.Sublist.append (List.Sublist.cons _ ?_) (List.Sublist.refl _)
    exact List.sublist_append_right _ _
   ·obtain ⟨s,hs,hq⟩:=mem_posA hq
    refine ih s hs _ (hnd.sublist (List.Sublist.map _ ?_)) q hq
    rw [all_subs u,kall_kid]
    exact List.Sublist.append ((all_in_allU hs).cons _) (List.Sublist.refl _)
theorem goF_beg:∀ {F:List Pc} {pl:Nat} {nt:List Int} {n:Un} {q:Nat} {nt':List Int} {G:List Pc},goF F pl nt=.beg n q nt' G→Pc.b n∈F:=by
 intro F
 induction F with
 | nil=>intro pl nt n q nt' G h;cases h
 | cons x F ih =>
  intro pl nt n q nt' G h
  cases x with
  | b m=>simp only [goF,FTask.beg.injEq] at h;rw [h.1];exact zzH
  | g i=>exact zzI _ (ih h)
  | d m=>cases h
theorem pcs_mem:∀ {K:Kt} {n:Un},Pc.b n∈pcs K→n∈kall K
 | .top,n,h=>by cases h
 | .row l K,n,h=>by
  rw [pcs,zzM] at h
  rcases h with h | h
  ·obtain ⟨x,hx,e⟩:=zzp.1 h
   injection e with e
   subst e
   exact zzW _ (sub_allU hx)
  ·exact zzV _ (pcs_mem h)
 | .grp i K,n,h=>by
  rw [pcs,zzN] at h
  rcases h with h | h
  ·cases h
  ·exact pcs_mem (K:=K) h
 | .dec m K,n,h=>by
  rw [pcs,zzN] at h
  rcases h with h | h
  ·cases h
  ·exact pcs_mem (K:=K) h
theorem block_one:∀ {l:List Un},((allU l).map Un.ad).Nodup→∀ {x y m n:Un},x∈l→y∈l→m∈x.all→n∈y.all→m.ad=n.ad→x=y:=by
 intro l
 induction l with
 | nil=>intro _ x y m n hx;cases hx
 | cons s l ih =>
  intro hnd x y m n hx hy hm hn e
  rw [allU,zzT,List.nodup_append] at hnd
  rcases zzN.1 hx with h1 | h1 <;> rcases zzN.1 hy with h2 | h2
  ·rw [h1,h2]
  ·subst h1
   exact absurd e (hnd.2.2 _ (zzk hm) _ (zzk ((all_in_allU h2).subset hn)))
  ·subst h2
   exact absurd e.symm (hnd.2.2 _ (zzk hn) _ (zzk ((all_in_allU h1).subset hm)))
  ·exact ih hnd.2.1 h1 h2 hm hn e
theorem kid_deep {u n s:Un} (hn:n∈u.all) (hs:s∈n.subs):s∈allU u.subs:=by
 have h1:=all_closed u n hn s hs
 rw [all_subs] at hn
 rcases zzN.1 hn with rfl | hn
 ·exact sub_allU hs
 ·rw [allU_flat] at hn ⊢
  obtain ⟨x,hx,hn⟩:=zzs.1 hn
  exact zzs.2 ⟨x,hx,all_closed x n hn s hs⟩
theorem parent_one:∀ {u:Un},(u.all.map Un.ad).Nodup→∀ {n p s c:Un},n∈u.all→p∈u.all→s∈n.subs→c∈p.subs→s.ad=c.ad→n=p:=by
 intro u
 induction u using Un.ind with
 | h u ih =>
  intro hnd n p s c hn hp hs hc e
  have hnd2:=hnd
  rw [all_subs,zzS,List.nodup_cons] at hnd2
  have deep:∀ x y:Un,∀ q∈u.subs,x∈u.subs→y∈allU q.subs→x.ad≠y.ad:=fun x y q hq hx hy e=>by
   have hyq:y∈q.all:=by rw [all_subs];exact zzI _ hy
   obtain rfl:=block_one hnd2.2 hx hq (self_all x) hyq e
   have:=hnd2.2.sublist (List.Sublist.map Un.ad (all_in_allU hx))
   rw [all_subs,zzS,List.nodup_cons] at this
   exact this.1 (by rw [e];exact zzk hy)
  rw [all_subs] at hn hp
  rcases zzN.1 hn with h1 | h1 <;> rcases zzN.1 hp with h2 | h2
  ·rw [h1,h2]
  ·subst h1
   rw [allU_flat] at h2
   obtain ⟨q,hq,hpq⟩:=zzs.1 h2
   exact absurd e (deep s c q hq hs (kid_deep hpq hc))
  ·subst h2
   rw [allU_flat] at h1
   obtain ⟨q,hq,hnq⟩:=zzs.1 h1
   exact absurd e.symm (deep c s q hq hc (kid_deep hnq hs))
  ·rw [allU_flat] at h1 h2
   obtain ⟨q1,hq1,hn1⟩:=zzs.1 h1
   obtain ⟨q2,hq2,hp2⟩:=zzs.1 h2
   obtain rfl:=block_one hnd2.2 hq1 hq2 (all_closed q1 n hn1 s hs) (all_closed q2 p hp2 c hc) e
   exact ih q1 hq1 (hnd2.2.sublist (List.Sublist.map Un.ad (all_in_allU hq1))) hn1 hp2 hs hc e
def Good (u c:Un):Prop:=c∈u.all∧((c.kind=4∧∃ x,c.subs=[x])∨∃ p∈u.all,c∈p.subs∧(p.kind=4∧(c.kind=4∨c.kind=1∧c.subs=[])∨p.kind=5∧c.kind=5))
theorem good_out {t:List Int} {at_ pl:Nat} {nt:List Int} {u u' c:Un} (hu:(u.all.map Un.ad).Nodup) (hg:Good u c) (hrm:rmN c.ad u=[u']) {a b:St} (ha:One t at_ st0 (.beg u pl nt .top) a) (hb:One t at_ st0 (.beg u' pl nt .top) b):a.out=b.out:=by
 obtain ⟨hcu,hk⟩:=hg
 obtain ⟨Kc,hKc⟩:=inT_ex hcu
 have hP:=place_of (t:=t) hu
 have hnd:=pos_nd u .top (by simpa [kall] using hu) (c,Kc) hKc
 rw [show (c,Kc).1=c from rfl,show (c,Kc).2=Kc from rfl,all_subs,zzi,zzS,List.nodup_cons] at hnd
 have hne:∀ n∈allU c.subs++kall Kc,n.ad≠c.ad:=fun n hn e=>hnd.1 (by rw [←e];exact zzk hn)
 have hself:InT u u .top:=self_pos u .top
 have hR0:RmR c.ad st0 st0:=⟨fun _ _ _ _=>Iff.rfl,rfl⟩
 have hbF:=one_f hb
 have hone:∀ n K,InT u n K→∀ s∈n.subs,s.ad=c.ad→s=c:=fun n K h s hs e=>nodup_one hu (all_closed u n (inT_all h) s hs) hcu e
 have row:(c.kind=4∨c.kind=1∧c.subs=[])→(∀ p K,InT u p K→p.ad≠c.ad→p.kind≠4→∀ s∈p.subs,∃ x,rmN c.ad s=[x])→a.out=b.out:=fun hck hsg=>by
  obtain ⟨s1',g1,g2,-⟩:=rm_one (P:=InT u) (c:=c) (Kc:=Kc) hP hKc rfl hck hsg (fun pl nt n q nt' F hh=>by
   have:=goF_beg hh
   rcases zzM.1 this with h | h
   ·obtain ⟨x,hx,e⟩:=zzp.1 h
    injection e with e
    subst e
    exact hne x (zzW _ (sub_allU hx))
   ·exact hne n (zzV _ (pcs_mem h))) ha hself (p:=none) (s':=st0) hR0 (fun q hq=>absurd rfl hq) (fun q hq=>by cases hq)
  have e:rmT c.ad (frT (.beg u pl nt .top))=frT (.beg u' pl nt .top):=rmT_one hrm pl nt []
  rw [e] at g1
  rw [oneF_fun hbF g1]
  exact g2.2
 rcases hk with ⟨h4,x,hx⟩ | ⟨p,hpu,hcp,hkk⟩
 ·refine row (.inl h4) fun n K hn _ _ s hs=>?_
  by_cases e:s.ad=c.ad
  ·obtain rfl:=hone n K hn s hs e
   rw [rmN_self rfl,hx,rmL,rmL,zzY,rmN_other (hne x (zzW _ (sub_allU (by rw [hx];simp))))]
   exact ⟨_,rfl⟩
  ·exact ⟨_,rmN_other e⟩
 ·rcases hkk with ⟨hp4,hck⟩ | ⟨hp5,hc5⟩
  ·refine row hck fun n K hn _ hn4 s hs=>?_
   by_cases e:s.ad=c.ad
   ·exact absurd (parent_one hu (inT_all hn) hpu hs hcp e ▸ hp4) hn4
   ·exact ⟨_,rmN_other e⟩
  ·obtain ⟨Kp,hKp⟩:=inT_ex hpu
   have hcK:InT u c Kp:=by
    have:=inT_sub hKp (by rw [hp5];decide) hcp
    unfold kidK at this
    rwa [if_neg (by rw [hp5];decide),if_neg (by rw [hp5];decide)] at this
   have hnp:=pos_nd u .top (by simpa [kall] using hu) (p,Kp) hKp
   rw [show (p,Kp).1=p from rfl,show (p,Kp).2=Kp from rfl,all_subs,zzi,zzS,List.nodup_cons] at hnp
   have hsl:∀ l:List Un,(l.map Un.ad).Sublist ((allU l).map Un.ad):=by
    intro l
    induction l with
    | nil=>exact List.Sublist.refl _
    | cons s l ih =>
     rw [allU,all_subs,zzi,zzS,zzS,zzT]
     exact (ih.trans (List.sublist_append_right _ _)).cons_cons _
   obtain ⟨s1',g1,g2,-⟩:=ea_one (P:=InT u) (c:=c) (p:=p) (Kp:=Kp) hP hcK hKp hc5 hp5 (fun e=>hnp.1 (by rw [e];exact zzk (zzW _ (sub_allU hcp)))) ((hnp.2.sublist (List.Sublist.map Un.ad (List.sublist_append_left _ _))).sublist (hsl _)) (fun x hx=>hne x (zzW _ (sub_allU hx))) (fun n K hn hnp s hs e=>hnp (by rw [parent_one hu (inT_all hn) hpu hs hcp e])) ha hself trivial (s':=st0) hR0 (fun q hq=>absurd rfl hq) (fun q hq=>by
    obtain ⟨e,-⟩:=hq
    have huc:u=c:=nodup_one hu (self_all u) hcu e
    refine absurd (kid_deep hpu hcp) fun h=>?_
    rw [←huc] at h
    have h2:=hu
    rw [all_subs,zzS,List.nodup_cons] at h2
    exact h2.1 (zzk h))
   have e:imgA c.ad c (.beg u pl nt .top)=[frT (.beg u' pl nt .top)]:=by
    show (rmN c.ad u).map _=_
    rw [hrm];rfl
   rw [e] at g1
   rw [oneF_fun hbF (manyF_one g1)]
   exact g2.2
end Mean
def Us.kind:Us→Int | .mk k _ _ _ _ _=>k
def Us.subs:Us→List Us | .mk _ _ _ _ _ l=>l
def putU (x:Us):List Us:=if x.kind=1 then [] else if x.kind=4 then x.subs else [x]
def altU (x:Us):List Us:=if x.kind=5 then x.subs else [x]
def rowU:List Us→Us
 | []=>emptyU
 | [x]=>x
 | l=>catU l
def nfK (k:Int) (r:List (Int × Int)) (a i:Int) (z:Bool) (X:List Us):Us :=
 if k=1 then emptyU else if k=4 then rowU (X.flatMap putU) else if k=5 then .mk 5 r a i z (X.flatMap altU) else .mk k r a i z X
mutual
def nfU:Us→Us
 | .mk k r a i z l=>nfK k r a i z (nfUs l)
def nfUs:List Us→List Us
 | []=>[]
 | x :: l=>nfU x :: nfUs l
end
theorem nfUs_map:∀ l:List Us,nfUs l=l.map nfU
 | []=>rfl
 | x :: l=>by rw [nfUs,nfUs_map l];rfl
def atomU (x:Us):Prop:=x.kind≠1∧x.kind≠4
def FormU (x:Us):Prop:=x=emptyU∨(∃ X,x=catU X∧2≤X.length∧∀ y∈X,atomU y)∨atomU x
theorem putU_atom {x:Us} (h:atomU x):putU x=[x]:=by unfold putU;rw [if_neg h.1,if_neg h.2]
theorem put_form {x:Us} (h:FormU x):∀ y∈putU x,atomU y:=by
 intro y hy
 rcases h with rfl | ⟨X,rfl,-,h⟩ | h
 ·cases hy
 ·exact h y hy
 ·rw [putU_atom h,zzE] at hy;rw [hy];exact h
theorem rowU_two {X:List Us} (h:2≤X.length):rowU X=catU X:=by
 match X,h with
 | _ :: _ :: _,_=>rfl
theorem rowU_form {X:List Us} (h:∀ y∈X,atomU y):FormU (rowU X):=by
 match X,h with
 | [],_=>exact .inl rfl
 | [x],h=>exact .inr (.inr (h x zzH))
 | x :: y :: l,h=>exact .inr (.inl ⟨_,rfl,by simp,h⟩)
theorem row_put {x:Us} (h:FormU x):rowU (putU x)=x:=by
 rcases h with rfl | ⟨X,rfl,h2,-⟩ | h
 ·rfl
 ·exact rowU_two h2
 ·rw [putU_atom h];rfl
theorem put_row {X:List Us} (h:∀ y∈X,atomU y):putU (rowU X)=X:=by
 match X,h with
 | [],_=>rfl
 | [x],h=>exact putU_atom (h x zzH)
 | x :: y :: l,_=>rfl
theorem nf_form:∀ x:Us,FormU (nfU x):=fun x =>
 Us.rec (motive_1:=fun x=>FormU (nfU x)) (motive_2:=fun l=>∀ y∈l,FormU (nfU y)) (fun k r a i z l ih=>by
  rw [nfU,nfUs_map]
  unfold nfK
  by_cases k1:k=1
  ·rw [if_pos k1];exact .inl rfl
  rw [if_neg k1]
  by_cases k4:k=4
  ·rw [if_pos k4]
   refine rowU_form fun y hy=>?_
   obtain ⟨x,hx,hy⟩:=zzs.1 hy
   obtain ⟨m,hm,rfl⟩:=zzp.1 hx
   exact put_form (ih m hm) y hy
  rw [if_neg k4]
  by_cases k5:k=5
  ·rw [if_pos k5];exact .inr (.inr ⟨by show (5:Int)≠1;decide,by show (5:Int)≠4;decide⟩)
  ·rw [if_neg k5];exact .inr (.inr ⟨k1,k4⟩)) (by simp) (fun x l hx hl=>by intro y hy;rcases zzN.1 hy with rfl | hy;exact hx;exact hl y hy) x
namespace Mean
def nfN (s:Un):Us:=nfU (shU s)
theorem nfN_eq (s:Un):nfN s=nfK s.kind s.rng s.ast s.ix s.lz (s.subs.map nfN):=by
 unfold nfN
 rw [shU_eq,nfU,nfUs_map,List.map_map];rfl
def UWn (n:Un):Prop:=(n.kind=4→n.subs≠[]∧n.rng=[]∧n.ast=0∧n.ix=0∧n.lz=false)∧(n.kind=1→n.subs=[]∧n.rng=[]∧n.ast=0∧n.ix=0∧n.lz=false)
def UW (u:Un):Prop:=∀ n∈u.all,UWn n
theorem form_nf {s:Un}:FormU (nfN s):=nf_form _
theorem rmL_top {a:Nat}:∀ {l:List Un},(∀ s∈l,s.ad≠a)→rmL a l=l.map (rm1 a)
 | [],_=>rfl
 | s :: l,h=>by rw [rmL,rmN_other (h s zzH),rmL_top fun x hx=>h x (zzI _ hx)];rfl
section
variable {u c:Un}
theorem nf_one {x:Un} (h4:c.kind=4) (hx:c.subs=[x]):nfN c=nfN x:=by
 rw [nfN_eq]
 unfold nfK
 rw [if_neg (by rw [h4];decide),if_pos h4,hx,zzS,zzt,zzl,List.flatMap_nil,zzY]
 exact row_put form_nf
theorem rm_nf (hu:(u.all.map Un.ad).Nodup) (hg:Good u c):∀ s,s∈u.all→(s.ad≠c.ad→nfN (rm1 c.ad s)=nfN s)∧∀ y∈s.subs,y.ad≠c.ad→nfN (rm1 c.ad y)=nfN y:=by
 obtain ⟨hcu,hk⟩:=hg
 have hcc:∀ y∈c.subs,y.ad≠c.ad:=fun y hy e=>by
  obtain rfl:=nodup_one hu (all_closed u c hcu y hy) hcu e
  have:=(all_in_allU hy).length_le
  rw [all_subs y,zzO] at this
  omega
 intro s
 induction s using Un.ind with
 | h s ih =>
  intro hs
  have hin:∀ y∈s.subs,y∈u.all:=fun y hy=>all_closed u s hs y hy
  have hsub:∀ y∈s.subs,y.ad≠c.ad→nfN (rm1 c.ad y)=nfN y:=fun y hy he=>(ih y hy (hin y hy)).1 he
  refine ⟨fun hsa=>?_,hsub⟩
  have hcs:∀ y∈s.subs,y.ad=c.ad→y=c:=fun y hy e=>nodup_one hu (hin y hy) hcu e
  -- the subs of c, when c is a sub
  have hmc:c∈s.subs→(rmL c.ad c.subs).map nfN=c.subs.map nfN:=fun hc=>by
   rw [rmL_top hcc,List.map_map]
   exact List.map_congr_left fun y hy=>(ih c hc hcu).2 y hy (hcc y hy)
  rw [nfN_eq s,nfN_eq (rm1 c.ad s)]
  show nfK s.kind s.rng s.ast s.ix s.lz ((rmL c.ad s.subs).map nfN)=_
  by_cases hc:c∈s.subs
  ·have hcm:=hmc hc
   have gen:∀ (f:Us→List Us),(((rmL c.ad c.subs).map nfN).flatMap f=f (nfN c))→∀ l:List Un,(∀ y∈l,y∈s.subs)→((rmL c.ad l).map nfN).flatMap f=(l.map nfN).flatMap f:=by
    intro f hf l
    induction l with
    | nil=>intro _;rfl
    | cons y l ihl =>
     intro hl
     rw [rmL,zzT,List.flatMap_append,ihl fun x hx=>hl x (zzI _ hx),zzS,zzl]
     congr 1
     by_cases e:y.ad=c.ad
     ·obtain rfl:=hcs y (hl y zzH) e
      rw [rmN_self rfl];exact hf
     ·rw [rmN_other e,zzS,zzt,hsub y (hl y zzH) e,zzl,List.flatMap_nil,zzY]
   have hpar:∀ p∈u.all,c∈p.subs→s=p:=fun p hp hcp=>parent_one hu hs hp hc hcp rfl
   unfold nfK
   by_cases k1:s.kind=1
   ·rw [if_pos k1,if_pos k1]
   rw [if_neg k1,if_neg k1]
   by_cases k4:s.kind=4
   ·rw [if_pos k4,if_pos k4,gen putU ?_ s.subs fun y hy=>hy]
    rw [hcm]
    have h41:c.kind=4∨c.kind=1∧c.subs=[]:=by
     rcases hk with ⟨h4,-⟩ | ⟨p,hp,hcp,hkk⟩
     ·exact .inl h4
     ·obtain rfl:=hpar p hp hcp
      rcases hkk with ⟨-,h⟩ | ⟨h,-⟩
      ·exact h
      ·rw [k4] at h;exact absurd h (by decide)
    rcases h41 with h4 | ⟨h1,h2⟩
    ·rw [nfN_eq c]
     unfold nfK
     rw [if_neg (by rw [h4];decide),if_pos h4,put_row fun y hy=>?_]
     obtain ⟨x,hx,hy⟩:=zzs.1 hy
     obtain ⟨m,hm,rfl⟩:=zzp.1 hx
     exact put_form form_nf y hy
    ·rw [h2,nfN_eq c]
     unfold nfK
     rw [if_pos h1];rfl
   ·have hk2:(c.kind=4∧∃ x,c.subs=[x])∨s.kind=5∧c.kind=5:=by
     rcases hk with h | ⟨p,hp,hcp,hkk⟩
     ·exact .inl h
     ·obtain rfl:=hpar p hp hcp
      rcases hkk with ⟨h,-⟩ | h
      ·exact absurd h k4
      ·exact .inr h
    rw [if_neg k4,if_neg k4]
    have hmap:(c.kind=4∧∃ x,c.subs=[x])→(rmL c.ad s.subs).map nfN=s.subs.map nfN:=fun ⟨h4,x,hx⟩=>by
     have:=gen (fun y=>[y]) (by rw [hcm,hx,zzS,zzt,nf_one h4 hx];rfl) s.subs fun y hy=>hy
     simpa using this
    by_cases k5:s.kind=5
    ·rw [if_pos k5,if_pos k5]
     rcases hk2 with h | ⟨-,h5⟩
     ·rw [hmap h]
     ·rw [gen altU ?_ s.subs fun y hy=>hy]
      rw [hcm,nfN_eq c]
      unfold nfK
      rw [if_neg (by rw [h5];decide),if_neg (by rw [h5];decide),if_pos h5]
      rfl
    ·rw [if_neg k5,if_neg k5]
     rcases hk2 with h | ⟨h,-⟩
     ·rw [hmap h]
     ·exact absurd h k5
  ·have hno:∀ y∈s.subs,y.ad≠c.ad:=fun y hy e=>hc (hcs y hy e ▸ hy)
   rw [rmL_top hno,List.map_map]
   congr 1
   exact List.map_congr_left fun y hy=>hsub y hy (hno y hy)
end
end Mean
namespace Mean
theorem rm_ads (a:Nat):∀ s:Un,((allU (rmN a s)).map Un.ad).Sublist (s.all.map Un.ad):=by
 intro s
 induction s using Un.ind with
 | h s ih =>
  have hl:∀ l:List Un,(∀ x∈l,((allU (rmN a x)).map Un.ad).Sublist (x.all.map Un.ad))→((allU (rmL a l)).map Un.ad).Sublist ((allU l).map Un.ad):=by
   intro l
   induction l with
   | nil=>intro _;exact List.Sublist.refl _
   | cons x l ihl =>
    intro h
    rw [rmL,allU_app,allU,zzT,zzT]
    exact (h x zzH).append (ihl fun y hy=>h y (zzI _ hy))
  rw [all_subs s,zzS]
  by_cases e:s.ad=a
  ·rw [rmN_self e]
   exact (hl s.subs ih).cons _
  ·rw [rmN_other e,allU,allU,zzY,all_subs,zzS]
   exact (hl s.subs ih).cons_cons _
theorem rm_from (a:Nat):∀ s:Un,∀ m∈allU (rmN a s),∃ n∈s.all,n.ad≠a∧m=rm1 a n:=by
 intro s
 induction s using Un.ind with
 | h s ih =>
  have hl:∀ l:List Un,(∀ x∈l,∀ m∈allU (rmN a x),∃ n∈x.all,n.ad≠a∧m=rm1 a n)→∀ m∈allU (rmL a l),∃ n∈allU l,n.ad≠a∧m=rm1 a n:=by
   intro l
   induction l with
   | nil=>intro _ m hm;cases hm
   | cons x l ihl =>
    intro h m hm
    rw [rmL,allU_app,zzM] at hm
    rcases hm with hm | hm
    ·obtain ⟨n,h1,h2⟩:=h x zzH m hm
     exact ⟨n,zzW _ h1,h2⟩
    ·obtain ⟨n,h1,h2⟩:=ihl (fun y hy=>h y (zzI _ hy)) m hm
     exact ⟨n,zzV _ h1,h2⟩
  intro m hm
  by_cases e:s.ad=a
  ·rw [rmN_self e] at hm
   obtain ⟨n,h1,h2⟩:=hl s.subs ih m hm
   exact ⟨n,by rw [all_subs];exact zzI _ h1,h2⟩
  ·rw [rmN_other e,allU,allU,zzY,all_subs,zzN] at hm
   rcases hm with rfl | hm
   ·exact ⟨s,self_all s,e,rfl⟩
   ·obtain ⟨n,h1,h2⟩:=hl s.subs ih m hm
    exact ⟨n,by rw [all_subs];exact zzI _ h1,h2⟩
def Good2 (u c:Un):Prop:=c∈u.all∧((c.kind=4∧∃ x,c.subs=[x])∨∃ p∈u.all,c∈p.subs∧(p.kind=4∧(c.kind=4∨(c.kind=1∧c.subs=[])∧2≤p.subs.length)∨p.kind=5∧c.kind=5))
theorem Good2.good {u c:Un} (h:Good2 u c):Good u c:=⟨h.1,h.2.imp id fun ⟨p,h1,h2,h3⟩=>⟨p,h1,h2,h3.imp (fun h=>⟨h.1,h.2.imp id fun h=>h.1⟩) id⟩⟩
theorem sub_all2:∀ (v:Un),∀ m∈v.all,m.all.Sublist v.all:=by
 intro v
 induction v using Un.ind with
 | h v ih =>
  intro m hm
  rw [all_subs,zzN] at hm
  rcases hm with rfl | hm
  ·exact List.Sublist.refl _
  ·rw [allU_flat] at hm
   obtain ⟨q,hq,hm⟩:=zzs.1 hm
   rw [all_subs v]
   exact ((ih q hq m hm).trans (all_in_allU hq)).cons _
theorem rm_root {u c:Un} (hu:(u.all.map Un.ad).Nodup) (hg:Good u c):∃ u',rmN c.ad u=[u']∧(u.ad≠c.ad∧u'=rm1 c.ad u∨u=c∧∃ x,c.kind=4∧c.subs=[x]∧x.ad≠c.ad∧u'=rm1 c.ad x):=by
 by_cases e:u.ad=c.ad
 ·have huc:u=c:=nodup_one hu (self_all u) hg.1 e
  have hd:=hu
  rw [all_subs,zzS,List.nodup_cons] at hd
  rcases hg.2 with ⟨h4,x,hx⟩ | ⟨p,hp,hcp,-⟩
  ·have hxa:x.ad≠c.ad:=fun e2=>hd.1 (by rw [e,←e2];exact zzk (sub_allU (by rw [huc,hx];simp)))
   refine ⟨rm1 c.ad x,?_,.inr ⟨huc,x,h4,hx,hxa,rfl⟩⟩
   rw [rmN_self e,huc,hx,rmL,rmL,zzY,rmN_other hxa]
  ·exact absurd (zzk (f:=Un.ad) (kid_deep hp hcp)) (by rw [←e];exact hd.1)
 ·exact ⟨_,rmN_other e,.inl ⟨e,rfl⟩⟩
theorem rm_keep {u c u':Un} (hu:(u.all.map Un.ad).Nodup) (hw:UW u) (hg:Good2 u c) (hr:rmN c.ad u=[u']):(u'.all.map Un.ad).Nodup∧UW u'∧u'.all.length < u.all.length∧nfN u'=nfN u:=by
 have hall:allU (rmN c.ad u)=u'.all:=by rw [hr,allU,allU,zzY]
 have hsl:=rm_ads c.ad u
 have hfr:=rm_from c.ad u
 rw [hall] at hsl hfr
 refine ⟨hu.sublist hsl,fun m hm=>?_,?_,?_⟩
 ·obtain ⟨n,hn,hna,rfl⟩:=hfr m hm
  obtain ⟨h1,h2⟩:=hw n hn
  refine ⟨fun k4=>?_,fun k1=>?_⟩
  ·obtain ⟨g1,g2,g3,g4,g5⟩:=h1 k4
   refine ⟨?_,g2,g3,g4,g5⟩
   show rmL c.ad n.subs≠[]
   have hne:∀ (l:List Un) (y:Un),y∈l→rmN c.ad y≠[]→rmL c.ad l≠[]:=by
    intro l
    induction l with
    | nil=>intro y hy;cases hy
    | cons x l ih =>
     intro y hy h
     rw [rmL]
     rcases zzN.1 hy with rfl | hy
     ·exact fun e=>h (List.append_eq_nil_iff.1 e).1
     ·exact fun e=>ih y hy h (List.append_eq_nil_iff.1 e).2
   by_cases hc:c∈n.subs
   ·have hsc:c.subs≠[]→rmL c.ad n.subs≠[]:=fun h=>by
     obtain ⟨x,l,hx⟩:=List.exists_cons_of_ne_nil h
     refine hne _ c hc ?_
     have hxa:x.ad≠c.ad:=fun e=>by
      have hxu:=all_closed u c hg.1 x (by rw [hx];simp)
      obtain rfl:=nodup_one hu hxu hg.1 e
      have:=(all_in_allU (show x∈x.subs by rw [hx];simp)).length_le
      rw [all_subs x,zzO] at this
      omega
     rw [rmN_self rfl,hx,rmL,rmN_other hxa]
     simp
    have hcw:=hw c hg.1
    rcases hg.2 with ⟨h4,-⟩ | ⟨p,hp,hcp,hk⟩
    ·exact hsc (hcw.1 h4).1
    ·obtain rfl:=parent_one hu hn hp hc hcp rfl
     rcases hk with ⟨-,h4 | ⟨-,hl⟩⟩ | ⟨h5,-⟩
     ·exact hsc (hcw.1 h4).1
     ·obtain ⟨y,hy,hya⟩:∃ y∈n.subs,y.ad≠c.ad:=by
       have hnn:((allU n.subs).map Un.ad).Nodup:=by
        have:=hu.sublist (List.Sublist.map Un.ad (sub_all2 u n hn))
        rw [all_subs,zzS,List.nodup_cons] at this
        exact this.2
       cases hs:n.subs with
       | nil=>rw [hs] at hl;simp at hl
       | cons x l =>
        cases l with
        | nil=>rw [hs] at hl;simp at hl
        | cons y l =>
         by_cases ex:x.ad=c.ad
         ·refine ⟨y,by simp,fun ey=>?_⟩
          rw [hs,allU,allU,zzT,List.nodup_append] at hnn
          exact hnn.2.2 _ (zzk (self_all x)) _ (zzk (zzW _ (self_all y))) (ex.trans ey.symm)
         ·exact ⟨x,by simp,ex⟩
      exact hne _ y hy (by rw [rmN_other hya];simp)
     ·exact absurd (show n.kind=4 from k4) (by rw [h5];decide)
   ·cases hs:n.subs with
    | nil=>exact absurd hs g1
    | cons x l =>
     rw [←hs]
     refine hne _ x (by rw [hs];simp) ?_
     have hxa:x.ad≠c.ad:=fun e=>hc (by
      have hxu:=all_closed u n hn x (by rw [hs];simp)
      rw [←nodup_one hu hxu hg.1 e,hs];simp)
     rw [rmN_other hxa]
     simp
  ·obtain ⟨g1,g2⟩:=h2 k1
   refine ⟨?_,g2⟩
   show rmL c.ad n.subs=[]
   rw [g1,rmL]
 ·refine Nat.lt_of_le_of_ne (by simpa using hsl.length_le) fun e=>?_
  have heq:=hsl.eq_of_length (by simpa using e)
  have hcm:c.ad∈u'.all.map Un.ad:=by rw [heq];exact zzk hg.1
  obtain ⟨m,hm,em⟩:=zzp.1 hcm
  obtain ⟨n,-,hna,rfl⟩:=hfr m hm
  exact hna em
 ·have hnf:=rm_nf hu hg.good
  obtain ⟨u2,h2,h3⟩:=rm_root hu hg.good
  rw [hr] at h2
  injection h2 with h2
  subst h2
  rcases h3 with ⟨h,rfl⟩ | ⟨rfl,x,h4,hx,hxa,rfl⟩
  ·exact (hnf u (self_all u)).1 h
  ·rw [nf_one h4 hx]
   exact (hnf u (self_all u)).2 x (by rw [hx];simp) hxa
theorem nf_self {u:Un} (hw:UW u) (hn:¬∃ c,Good2 u c):∀ s:Un,s∈u.all→nfN s=shU s:=by
 intro s
 induction s using Un.ind with
 | h s ih =>
  intro hs
  have hin:∀ y∈s.subs,y∈u.all:=fun y hy=>all_closed u s hs y hy
  have hmap:s.subs.map nfN=s.subs.map shU:=List.map_congr_left fun y hy=>ih y hy (hin y hy)
  have hid:∀ (f:Us→List Us) (l:List Un),(∀ y∈l,f (shU y)=[shU y])→(l.map shU).flatMap f=l.map shU:=by
   intro f l
   induction l with
   | nil=>intro _;rfl
   | cons y l ihl =>
    intro h
    rw [zzS,zzl,h y zzH,ihl fun x hx=>h x (zzI _ hx)];rfl
  have hsk:∀ y:Un,(shU y).kind=y.kind:=fun y=>by rw [shU_eq];rfl
  rw [nfN_eq,hmap,shU_eq s]
  unfold nfK
  by_cases k1:s.kind=1
  ·obtain ⟨g1,g2,g3,g4,g5⟩:=(hw s hs).2 k1
   rw [if_pos k1,k1,g1,g2,g3,g4,g5];rfl
  rw [if_neg k1]
  by_cases k4:s.kind=4
  ·obtain ⟨g1,g2,g3,g4,g5⟩:=(hw s hs).1 k4
   have hl:2≤s.subs.length:=by
    cases hq:s.subs with
    | nil=>exact absurd hq g1
    | cons x l =>
     cases l with
     | nil=>exact absurd ⟨s,hs,.inl ⟨k4,x,hq⟩⟩ hn
     | cons y l=>simp
   rw [if_pos k4,hid putU s.subs fun y hy=>?_,rowU_two (by rw [zzP];exact hl),k4,g2,g3,g4,g5]
   ·rfl
   ·unfold putU
    rw [hsk,if_neg fun k1=>hn ⟨y,hin y hy,.inr ⟨s,hs,hy,.inl ⟨k4,.inr ⟨⟨k1,((hw y (hin y hy)).2 k1).1⟩,hl⟩⟩⟩⟩,if_neg fun h4=>hn ⟨y,hin y hy,.inr ⟨s,hs,hy,.inl ⟨k4,.inl h4⟩⟩⟩]
  ·rw [if_neg k4]
   by_cases k5:s.kind=5
   ·rw [if_pos k5,hid altU s.subs fun y hy=>?_,k5]
    unfold altU
    rw [hsk,if_neg fun h5=>hn ⟨y,hin y hy,.inr ⟨s,hs,hy,.inr ⟨k5,h5⟩⟩⟩]
   ·rw [if_neg k5]
section
variable {t:List Int} {at_ pl:Nat} {nt:List Int}
theorem run_ex (u:Un) (hpl:pl≤t.length):∃ b,One t at_ st0 (.beg u pl nt .top) b:=by
 obtain ⟨b,h,-⟩:=one_total (t:=t) (at_:=at_) (all_closed u) _ _ st0 (.beg u pl nt .top) (zzF _) (zzF _) ⟨self_all u,hpl,trivial⟩
 exact ⟨b,h⟩
theorem nf_ex (hpl:pl≤t.length):∀ (m:Nat) (u:Un),u.all.length≤m→(u.all.map Un.ad).Nodup→UW u→∃ u',shU u'=nfN u∧(u'.all.map Un.ad).Nodup∧∀ a b,One t at_ st0 (.beg u pl nt .top) a→One t at_ st0 (.beg u' pl nt .top) b→a.out=b.out:=by
 intro m
 induction m with
 | zero=>intro u h;rw [all_subs,zzO] at h;omega
 | succ m ih =>
  intro u hm hu hw
  by_cases hg:∃ c,Good2 u c
  ·obtain ⟨c,hg⟩:=hg
   obtain ⟨u1,hr,-⟩:=rm_root hu hg.good
   obtain ⟨h1,h2,h3,h4⟩:=rm_keep hu hw hg hr
   obtain ⟨u',g1,g2,g3⟩:=ih u1 (by omega) h1 h2
   refine ⟨u',g1.trans h4,g2,fun a b ha hb=>?_⟩
   obtain ⟨b1,hb1⟩:=run_ex (t:=t) (at_:=at_) (nt:=nt) u1 hpl
   rw [good_out hu hg.good hr ha hb1]
   exact g3 b1 b hb1 hb
  ·exact ⟨u,(nf_self hw hg u (self_all u)).symm,hu,fun a b ha hb=>by rw [one_fun ha hb]⟩
theorem flat_out {u v:Un} (hpl:pl≤t.length) (hu:(u.all.map Un.ad).Nodup) (hv:(v.all.map Un.ad).Nodup) (hwu:UW u) (hwv:UW v) (he:nfU (shU u)=nfU (shU v)) {a b:St} (ha:One t at_ st0 (.beg u pl nt .top) a) (hb:One t at_ st0 (.beg v pl nt .top) b):a.out=b.out:=by
 obtain ⟨u',h1,h2,h3⟩:=nf_ex (t:=t) (at_:=at_) (nt:=nt) hpl _ u (zzF _) hu hwu
 obtain ⟨v',g1,g2,g3⟩:=nf_ex (t:=t) (at_:=at_) (nt:=nt) hpl _ v (zzF _) hv hwv
 obtain ⟨a1,ha1⟩:=run_ex (t:=t) (at_:=at_) (nt:=nt) u' hpl
 obtain ⟨b1,hb1⟩:=run_ex (t:=t) (at_:=at_) (nt:=nt) v' hpl
 rw [h3 a a1 ha ha1,g3 b b1 hb hb1]
 exact (same_out (h1.trans (he.trans g1.symm)) h2 g2 (all_closed u') hpl ha1 hb1).symm
end
end Mean
def nfT (t:Tr.Tr):Us:=nfU (unfS t)
theorem nfT_node {k:Int} {r:List (Int × Int)} {a:Int} {l:List Tr.Tr} {n m:Int} {z:Bool} {i:Int} {s:ByteArray} (h:k≠6):nfT (.mk k r a l n m z i s)=nfK k r a i false (l.map nfT):=by
 unfold nfT
 rw [unfS,if_pos h,nfU,nfUs_map,unfSs_map,List.map_map];rfl
theorem nfT_empty:nfT Tr.emptyT=emptyU:=by
 rw [Tr.emptyT,nfT_node (by decide)];rfl
theorem nfT_form (t:Tr.Tr):FormU (nfT t):=nf_form _
theorem atoms_of {l:List Tr.Tr}:∀ y∈(l.map nfT).flatMap putU,atomU y:=by
 intro y hy
 obtain ⟨x,hx,hy⟩:=zzs.1 hy
 obtain ⟨m,-,rfl⟩:=zzp.1 hx
 exact put_form (nfT_form m) y hy
theorem nfT_row:∀ L:List Tr.Tr,nfT (Tr.row L)=rowU ((L.map nfT).flatMap putU)
 | []=>nfT_empty
 | [x]=>by
  show nfT x=rowU (putU (nfT x)++[])
  rw [zzY,row_put (nfT_form x)]
 | x :: y :: l=>by
  show nfT (Tr.catT (x :: y :: l))=_
  rw [Tr.catT,nfT_node (by decide)];rfl
theorem putT_nf (x:Tr.Tr):((Tr.putT x).map nfT).flatMap putU=putU (nfT x):=by
 cases x with
 | mk k r a l n m z i s =>
  unfold Tr.putT
  show (List.map nfT (if k=1 then [] else if k=4 then l else [_])).flatMap putU=_
  by_cases k1:k=1
  ·rw [if_pos k1,nfT_node (by rw [k1];decide)]
   unfold nfK
   rw [if_pos k1];rfl
  rw [if_neg k1]
  by_cases k4:k=4
  ·rw [if_pos k4,nfT_node (by rw [k4];decide)]
   unfold nfK
   rw [if_neg k1,if_pos k4,put_row atoms_of]
  ·rw [if_neg k4,zzS,zzt,zzl,List.flatMap_nil,zzY]
theorem putTs_nf:∀ L:List Tr.Tr,((L.flatMap Tr.putT).map nfT).flatMap putU=(L.map nfT).flatMap putU
 | []=>rfl
 | x :: L=>by rw [zzl,zzT,List.flatMap_append,putT_nf,putTs_nf L,zzS,zzl]
theorem altT_nf (x:Tr.Tr):((Tr.altPut x).map nfT).flatMap altU=altU (nfT x):=by
 cases x with
 | mk k r a l n m z i s =>
  unfold Tr.altPut
  show (List.map nfT (if k=5 then l else [_])).flatMap altU=_
  by_cases k5:k=5
  ·rw [if_pos k5,nfT_node (by rw [k5];decide)]
   unfold nfK
   rw [if_neg (by rw [k5];decide),if_neg (by rw [k5];decide),if_pos k5];rfl
  ·rw [if_neg k5,zzS,zzt,zzl,List.flatMap_nil,zzY]
theorem altTs_nf:∀ L:List Tr.Tr,((L.flatMap Tr.altPut).map nfT).flatMap altU=(L.map nfT).flatMap altU
 | []=>rfl
 | x :: L=>by rw [zzl,zzT,List.flatMap_append,altT_nf,altTs_nf L,zzS,zzl]
theorem nf_loop {k:Int} {z:Bool} {x:Us} (h1:k≠1) (h4:k≠4) (h5:k≠5):nfU (loopU k z x)=loopU k z (nfU x):=by
 unfold loopU
 rw [nfU,nfUs_map]
 unfold nfK
 rw [if_neg h1,if_neg h4,if_neg h5];rfl
theorem nf_cat (l:List Us):nfU (catU l)=rowU ((l.map nfU).flatMap putU):=by
 unfold catU
 rw [nfU,nfUs_map];rfl
theorem loop_atom {k:Int} {z:Bool} {x:Us} (h1:k≠1) (h4:k≠4):putU (loopU k z x)=[loopU k z x]:=putU_atom ⟨h1,h4⟩
theorem nfT_rep {s:Tr.Tr} {n m:Int} {z:Bool}:nfT (Tr.repT s n m z)=nfU (repU (unfS s) n m z):=by
 unfold nfT Tr.repT
 rw [unfS,if_neg (by decide),unfSs,unfSs];rfl
theorem nfT_rep01 {s:Tr.Tr} {z:Bool}:nfT (Tr.repT s 0 1 z)=loopU (-1) z (nfT s):=by
 rw [nfT_rep,show repU (unfS s) 0 1 z=catU [loopU (-1) z (unfS s)] from rfl,nf_cat,zzS,zzt,nf_loop (by decide) (by decide) (by decide),zzl,List.flatMap_nil,zzY,loop_atom (by decide) (by decide)];rfl
theorem nf_opt {y:Tr.Tr} {w:Us} {z:Bool} (h:nfT y=nfU w):∀ d,nfT (Tr.optS y z (d+1))=nfU (optU z w d)
 | 0=>by
  rw [Tr.optS,nfT_rep01,optU,nf_loop (by decide) (by decide) (by decide),Tr.optS,←h]
  congr 1
  rw [show Tr.putT y++Tr.putT Tr.emptyT=[y].flatMap Tr.putT from rfl,nfT_row,putTs_nf,zzS,zzt,zzl,List.flatMap_nil,zzY,row_put (nfT_form y)]
 | d+1=>by
  rw [Tr.optS,nfT_rep01,optU,nf_loop (by decide) (by decide) (by decide)]
  congr 1
  rw [show Tr.putT y++Tr.putT (Tr.optS y z (d+1))=[y,Tr.optS y z (d+1)].flatMap Tr.putT from by simp,nfT_row,putTs_nf,nf_cat]
  simp only [zzS,zzt]
  rw [nf_opt h d,h]
theorem flat_rep (y:Tr.Tr):∀ q:Nat,(List.replicate q (Tr.putT y)).flatten=(List.replicate q y).flatMap Tr.putT
 | 0=>rfl
 | q+1=>by rw [List.replicate_succ,List.replicate_succ,List.flatten_cons,zzl,flat_rep y q]
theorem nf_simple:∀ t:Tr.Tr,Tr.allB t=true→nfT (Tr.simpleS t)=nfT t:=by
 intro t
 induction t using Tr.Tr.ind with
 | h t ih =>
  intro hall
  obtain ⟨hnb,hsb⟩:=(Tr.allB_iff _).1 hall
  cases t with
  | mk k r a l n m z i s =>
   have ih':∀ x∈l,nfT (Tr.simpleS x)=nfT x:=fun x hx=>ih x hx (hsb x hx)
   have hml:(l.map Tr.simpleS).map nfT=l.map nfT:=by rw [List.map_map];exact List.map_congr_left fun x hx=>ih' x hx
   unfold Tr.nodeB Tr.nodeF at hnb
   rw [Tr.simpleS,Tr.simplesS_map]
   by_cases k7:k=7
   ·subst k7
    simp only [reduceIte,Int.reduceEq,zzc,zyE] at hnb
    obtain ⟨hz,hq,-⟩:=hnb
    obtain ⟨x,rfl⟩:=List.length_eq_one_iff.1 hq
    obtain ⟨rfl,rfl,-⟩:=Tr.zeroB_eq hz
    rw [if_pos rfl,Tr.groupT,nfT_node (by decide),nfT_node (by decide)]
    simp only [zzS,zzt,List.headD_cons,ih' x (by simp)]
   rw [if_neg k7]
   by_cases k4:k=4
   ·rw [if_pos k4,nfT_row,putTs_nf,hml,nfT_node (by rw [k4];decide)]
    unfold nfK
    rw [if_neg (by rw [k4];decide),if_pos k4]
   rw [if_neg k4]
   by_cases k5:k=5
   ·subst k5
    simp only [reduceIte,Int.reduceEq,zzc,zyE] at hnb
    obtain ⟨rfl,rfl,-,-,-,rfl,-⟩:=Tr.zeroB_eq hnb.1
    rw [if_pos rfl,Tr.altT,nfT_node (by decide),nfT_node (by decide)]
    show Us.mk 5 _ _ _ _ _=Us.mk 5 _ _ _ _ _
    rw [altTs_nf,hml]
   rw [if_neg k5]
   by_cases k6:k=6
   ·subst k6
    simp only [reduceIte,Int.reduceEq,zzc,Bool.or_eq_true,zzg,zyE] at hnb
    obtain ⟨x,rfl⟩:=List.length_eq_one_iff.1 hnb.2.1
    obtain ⟨h0,h1,hm⟩:=hnb.2.2
    have hx:=ih' x (by simp)
    have ht:nfT (.mk 6 r a [x] n m z i s)=nfU (repU (unfS x) n m z):=by
     unfold nfT
     rw [unfS,if_neg (by decide),unfSs,unfSs];rfl
    rw [if_pos rfl,ht,zzS,zzt,List.headD_cons]
    by_cases m0:m=0
    ·obtain rfl:n=0:=by omega
     rw [if_pos m0,nfT_empty,m0];rfl
    rw [if_neg m0]
    unfold Tr.unfoldS repU
    by_cases m1:m=-1
    ·rw [if_pos m1]
     by_cases n0:n=0
     ·rw [if_pos ⟨by omega,n0⟩,if_pos n0,nfT_rep,show repU (unfS (Tr.simpleS x)) 0 (-1) z=loopU (-2) z (unfS (Tr.simpleS x)) from rfl,nf_loop (by decide) (by decide) (by decide),nf_loop (by decide) (by decide) (by decide)]
      exact congrArg _ hx
     ·rw [if_neg (fun h=>n0 h.2),if_pos (by omega),if_neg n0,flat_rep,show (List.replicate (n - 1).toNat (Tr.simpleS x)).flatMap Tr.putT++Tr.putT (Tr.repT (Tr.simpleS x) 1 (-1) z)=(List.replicate (n - 1).toNat (Tr.simpleS x)++[Tr.repT (Tr.simpleS x) 1 (-1) z]).flatMap Tr.putT from by simp,nfT_row,putTs_nf,nf_cat]
      simp only [zzT,List.map_replicate,zzS,zzt]
      rw [hx,nfT_rep,show repU (unfS (Tr.simpleS x)) 1 (-1) z=catU [loopU (-3) z (unfS (Tr.simpleS x))] from rfl,nf_cat,zzS,zzt,nf_loop (by decide) (by decide) (by decide),nf_loop (by decide) (by decide) (by decide),zzl,List.flatMap_nil,zzY,loop_atom (by decide) (by decide)]
      show rowU ((List.replicate (n - 1).toNat (nfT x)++[loopU (-3) z (nfT (Tr.simpleS x))]).flatMap putU)=_
      rw [hx];rfl
    ·rw [if_neg m1,if_neg (by omega),if_neg (by omega),if_neg (by omega),flat_rep,show (List.replicate n.toNat (Tr.simpleS x)).flatMap Tr.putT++Tr.putT (Tr.optS (Tr.simpleS x) z (m - n).toNat)=(List.replicate n.toNat (Tr.simpleS x)++[Tr.optS (Tr.simpleS x) z (m - n).toNat]).flatMap Tr.putT from by simp,nfT_row,putTs_nf,nf_cat]
     simp only [zzT,List.map_replicate,zzS,zzt]
     rw [hx,List.flatMap_append,List.flatMap_append]
     congr 2
     by_cases hlt:n < m
     ·rw [if_pos hlt]
      obtain ⟨d,hd⟩:∃ d,(m - n).toNat=d+1:=⟨(m - n).toNat - 1,by omega⟩
      rw [hd,show (m - n - 1).toNat=d from by omega,nf_opt (w:=unfS x) hx d];rfl
     ·rw [if_neg hlt,show (m - n).toNat=0 from by omega,Tr.optS,nfT_empty];rfl
   ·rw [if_neg k6]
mutual
def WU:Us→Prop
 | .mk k r a i z l=>(k=4→l≠[]∧r=[]∧a=0∧i=0∧z=false)∧(k=1→l=[]∧r=[]∧a=0∧i=0∧z=false)∧WUs l
def WUs:List Us→Prop
 | []=>True
 | x :: l=>WU x∧WUs l
end
theorem WUs_iff:∀ l:List Us,WUs l ↔ ∀ x∈l,WU x
 | []=>by simp [WUs]
 | x :: l=>by rw [WUs,WUs_iff l];simp
theorem uw_sh:∀ u:Mean.Un,WU (shU u)→Mean.UW u:=by
 intro u
 induction u using Mean.Un.ind with
 | h u ih =>
  intro h n hn
  rw [Mean.shU_eq,WU,WUs_iff] at h
  obtain ⟨h4,h1,hl⟩:=h
  rw [Mean.all_subs,zzN] at hn
  rcases hn with rfl | hn
  ·refine ⟨fun k4=>?_,fun k1=>?_⟩
   ·obtain ⟨g1,g2⟩:=h4 k4
    exact ⟨fun e=>g1 (by rw [e];rfl),g2⟩
   ·obtain ⟨g1,g2⟩:=h1 k1
    exact ⟨List.map_eq_nil_iff.1 g1,g2⟩
  ·rw [Mean.allU_flat] at hn
   obtain ⟨q,hq,hn⟩:=zzs.1 hn
   exact ih q hq (hl _ (zzk hq)) n hn
theorem wu_loop {k:Int} {z:Bool} {x:Us} (h1:k≠1) (h4:k≠4) (hx:WU x):WU (loopU k z x):=by
 unfold loopU
 rw [WU]
 exact ⟨fun h=>absurd h h4,fun h=>absurd h h1,hx,trivial⟩
theorem wu_cat {l:List Us} (hl:∀ x∈l,WU x) (hne:l≠[]):WU (catU l):=by
 unfold catU
 rw [WU,WUs_iff]
 exact ⟨fun _=>⟨hne,rfl,rfl,rfl,rfl⟩,fun h=>absurd h (by decide),hl⟩
theorem wu_opt {z:Bool} {x:Us} (hx:WU x):∀ n,WU (optU z x n)
 | 0=>wu_loop (by decide) (by decide) hx
 | n+1=>wu_loop (by decide) (by decide) (wu_cat (by
   intro y hy
   simp only [zzN,zyA,or_false] at hy
   rcases hy with rfl | rfl
   ·exact hx
   ·exact wu_opt hx n) (by simp))
theorem wu_rep {x:Us} {n m:Int} {z:Bool} (hx:WU x):WU (repU x n m z):=by
 unfold repU
 split
 ·split
  ·exact wu_loop (by decide) (by decide) hx
  ·refine wu_cat (fun y hy=>?_) (by simp)
   rw [zzM] at hy
   rcases hy with hy | hy
   ·rw [(List.mem_replicate.1 hy).2];exact hx
   ·rw [zzE.1 hy];exact wu_loop (by decide) (by decide) hx
 ·split
  ·unfold emptyU
   rw [WU]
   exact ⟨fun h=>absurd h (by decide),fun _=>⟨rfl,rfl,rfl,rfl,rfl⟩,trivial⟩
  ·rename_i h
   refine wu_cat (fun y hy=>?_) fun e=>?_
   ·rw [zzM] at hy
    rcases hy with hy | hy
    ·rw [(List.mem_replicate.1 hy).2];exact hx
    ·split at hy
     ·rw [zzE.1 hy];exact wu_opt hx _
     ·cases hy
   ·obtain ⟨e1,e2⟩:=List.append_eq_nil_iff.1 e
    have e3:n.toNat=0:=by simpa using e1
    refine h ⟨e3,fun hlt=>?_⟩
    rw [if_pos hlt] at e2
    cases e2
theorem wu_unf:∀ t:Tr.Tr,Tr.allB t=true→WU (unfS t):=by
 intro t
 induction t using Tr.Tr.ind with
 | h t ih =>
  intro hall
  obtain ⟨hnb,hsb⟩:=(Tr.allB_iff _).1 hall
  cases t with
  | mk k r a l n m z i s =>
   have ih':∀ x∈l,WU (unfS x):=fun x hx=>ih x hx (hsb x hx)
   unfold Tr.nodeB Tr.nodeF at hnb
   by_cases k6:k=6
   ·subst k6
    simp only [reduceIte,Int.reduceEq,zzc,Bool.or_eq_true,zzg,zyE] at hnb
    obtain ⟨x,rfl⟩:=List.length_eq_one_iff.1 hnb.2.1
    rw [unfS,if_neg (by decide),unfSs,unfSs]
    exact wu_rep (ih' x (by simp))
   ·rw [unfS,if_pos k6,WU,WUs_iff,unfSs_map]
    refine ⟨fun k4=>?_,fun k1=>?_,fun y hy=>?_⟩
    ·subst k4
     simp only [reduceIte,Int.reduceEq,zzc,zzg] at hnb
     obtain ⟨h1,h2,-,-,-,h3,-⟩:=Tr.zeroB_eq hnb.1
     refine ⟨fun e=>?_,h1,h2,h3,rfl⟩
     have:=List.map_eq_nil_iff.1 e
     have h5:=hnb.2
     rw [this] at h5
     exact absurd h5 (by decide)
    ·subst k1
     simp only [reduceIte,zzc,zyE] at hnb
     obtain ⟨h1,h2,-,-,-,h3,-⟩:=Tr.zeroB_eq hnb.1
     refine ⟨?_,h1,h2,h3,rfl⟩
     rw [List.length_eq_zero_iff.1 hnb.2];rfl
    ·obtain ⟨x,hx,rfl⟩:=zzp.1 hy
     exact ih' x hx
theorem uw_of {u:Mean.Un} {t:Tr.Tr} (h:shU u=unfS t) (hall:Tr.allB t=true):Mean.UW u:=uw_sh u (by rw [h];exact wu_unf t hall)
theorem simple_out {t:List Int} {at_ pl:Nat} {nt:List Int} {u v:Mean.Un} {tr:Tr.Tr} (hall:Tr.allB tr=true) (halls:Tr.allB (Tr.simpleS tr)=true) (hpl:pl≤t.length) (hsu:shU u=unfS tr) (hsv:shU v=unfS (Tr.simpleS tr)) (hu:(u.all.map Mean.Un.ad).Nodup) (hv:(v.all.map Mean.Un.ad).Nodup) {a b:Mean.St} (ha:Mean.One t at_ st0 (.beg u pl nt .top) a) (hb:Mean.One t at_ st0 (.beg v pl nt .top) b):a.out=b.out :=
 Mean.flat_out hpl hu hv (uw_of hsu hall) (uw_of hsv halls) (by rw [hsu,hsv];exact (nf_simple tr hall).symm) ha hb
end Go.Proofs.YtgkclnmmjedmkaaGreat
