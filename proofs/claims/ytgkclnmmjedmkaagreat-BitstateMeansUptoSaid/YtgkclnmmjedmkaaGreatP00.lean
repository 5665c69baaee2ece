/- Words for memory: a slice that reads as a list of values. No program here. -/
import Derived.WalkKit
import Derived.WalkSpells
import Derived.Below
import Derived.Laws.OwnMore
import Derived.Laws.BytesArg
import Derived.Deep.AppendLies
import Derived.Deep.Draws
import Derived.Lib.Hide
import Derived.Maps.AppendAt
import Derived.Laws.CopyOwn
import Derived.Laws.Rows
import Derived.WalkLawsBesides
import Derived.Laws.AppendOwnNone
import Derived.WalkSmall
import Derived.Laws.ResultCell
namespace Go.Proofs.YtgkclnmmjedmkaaGreat
open Go.RowKit
abbrev zzA := @Lib.hid
abbrev zzB := @List.setIfInBounds_toArray
abbrev zzC := @List.set_cons_succ
abbrev zzD := @List.set_cons_zero
abbrev zzE := @List.mem_singleton
abbrev zzF := @Nat.le_refl
abbrev zzG := @List.length_append
abbrev zzH := @List.mem_cons_self
abbrev zzI := @List.mem_cons_of_mem
abbrev zzJ := @List.getElem?_eq_getElem
abbrev zzK := @List.getElem?_eq_some_iff
abbrev zzL := @List.mem_of_getElem?
abbrev zzM := @List.mem_append
abbrev zzN := @List.mem_cons
abbrev zzO := @List.length_cons
abbrev zzP := @List.length_map
abbrev zzQ := @Nat.lt_of_lt_of_le
abbrev zzR := @List.getElem?_cons_zero
abbrev zzS := @List.map_cons
abbrev zzT := @List.map_append
abbrev zzU := @Nat.le_trans
abbrev zzV := @List.mem_append_right
abbrev zzW := @List.mem_append_left
abbrev zzX := @List.getElem?_cons_succ
abbrev zzY := @List.append_nil
abbrev zzZ := @Nat.zero_le
abbrev zza := @List.getElem?_map
abbrev zzb := @Below.refl
abbrev zzc := @Bool.and_eq_true
abbrev zzd := @Option.some.injEq
abbrev zze := @World.block_lt_of_cell?
abbrev zzf := @List.getD_eq_getElem?_getD
abbrev zzg := @decide_eq_true_eq
abbrev zzh := @beq_eq_false_iff_ne
abbrev zzi := @List.cons_append
abbrev zzj := @Int.natCast_nonneg
abbrev zzk := @List.mem_map_of_mem
abbrev zzl := @List.flatMap_cons
abbrev zzm := @bodyPost_ret
abbrev zzn := @List.nil_append
abbrev zzo := @Nat.le_of_lt
abbrev zzp := @List.mem_map
abbrev zzq := @List.eq_nil_of_length_eq_zero
abbrev zzr := @List.getElem?_set_ne
abbrev zzs := @List.mem_flatMap
abbrev zzt := @List.map_nil
abbrev zzu := @List.length_set
abbrev zzv := @List.mem_singleton_self
abbrev zzw := @Nat.zero_add
abbrev zzx := @IntKind.wrap_i64
abbrev zzy := @Nat.add_assoc
abbrev zzz := @List.getElem?_append_right
abbrev zyA := @List.not_mem_nil
abbrev zyB := @Int.toNat_natCast
abbrev zyC := @List.length_replicate
abbrev zyD := @List.take_add_one
abbrev zyE := @beq_iff_eq
abbrev zyF := @List.append_assoc
theorem add_of_add (a:Addr) (i j:Nat):(a.add i).add j=a.add (i+j):=by
 unfold Addr.add
 by_cases hi:i=0 <;> by_cases hj:j=0 <;> simp [hi,hj,zzy]
theorem add_lit (b off j:Nat):(⟨b,off,none⟩:Addr).add j=⟨b,off+j,none⟩:=by
 unfold Addr.add
 split <;> simp_all
theorem bdrewN {B:Nat} {a w:World} (h:Below B a w) (n:Nat):Below B a (w.drewN n):=h.trans ⟨rfl,rfl,rfl,zzF _,fun _ _=>rfl⟩
def Reads (w:World) (B size:Nat) (A:Option Addr) (n c:Nat) (xs:List Value):Prop :=
 n≤c∧c≤9223372036854775807∧xs.length=n*size∧(0 < n→∃ b off,A=some ⟨b,off,none⟩∧b < B∧∀ j u,xs[j]?=some u→w.cell? ⟨b,off+j,none⟩=some u)
section
variable {w w':World} {B B' size n c:Nat} {A:Option Addr} {xs:List Value}
theorem Reads.le (h:Reads w B size A n c xs):n≤c:=h.1
theorem Reads.cap (h:Reads w B size A n c xs):c≤9223372036854775807:=h.2.1
theorem Reads.len (h:Reads w B size A n c xs):xs.length=n*size:=h.2.2.1
theorem Reads.none_:Reads w B size none 0 0 []:=⟨zzF _,by omega,by simp,fun h=>absurd h (by omega)⟩
theorem Reads.at_ (h:Reads w B size A n c xs) (hn:0 < n):∃ b off,A=some ⟨b,off,none⟩∧b < B∧∀ j u,xs[j]?=some u→w.cell? ⟨b,off+j,none⟩=some u:=h.2.2.2 hn
theorem Reads.cellAt {b off:Nat} (h:Reads w B size (some ⟨b,off,none⟩) n c xs) {j:Nat} {u:Value} (hu:xs[j]?=some u):w.cell? ⟨b,off+j,none⟩=some u:=by
 have hj:j < xs.length:=(zzK.1 hu).1
 have hn:0 < n:=by
  rcases Nat.eq_zero_or_pos n with h0 | h0
  ·rw [h.len,h0,Nat.zero_mul] at hj;omega
  ·exact h0
 obtain ⟨b',off',e,_,hc⟩:=h.at_ hn
 simp only [zzd,Addr.mk.injEq,and_true] at e
 obtain ⟨rfl,rfl⟩:=e
 exact hc j u hu
theorem Reads.lt {b off:Nat} (h:Reads w B size (some ⟨b,off,none⟩) n c xs) (hn:0 < n):b < B:=by
 obtain ⟨b',off',e,hb,_⟩:=h.at_ hn
 simp only [zzd,Addr.mk.injEq,and_true] at e
 obtain ⟨rfl,rfl⟩:=e
 exact hb
theorem Reads.keep (h:Reads w B size A n c xs) (hk:∀ p:Addr,p.block < B→w'.cell? p=w.cell? p):Reads w' B size A n c xs :=
 ⟨h.1,h.2.1,h.2.2.1,fun hn=>by
  obtain ⟨b,off,e,hb,hc⟩:=h.at_ hn
  exact ⟨b,off,e,hb,fun j u hu=>(hk ⟨b,off+j,none⟩ hb).trans (hc j u hu)⟩⟩
theorem Reads.more (h:Reads w B size A n c xs) (hB:B≤B'):Reads w B' size A n c xs :=
 ⟨h.1,h.2.1,h.2.2.1,fun hn=>by
  obtain ⟨b,off,e,hb,hc⟩:=h.at_ hn
  exact ⟨b,off,e,by omega,hc⟩⟩
theorem Reads.below (h:Reads w B size A n c xs) (hb:Below B w w'):Reads w' B size A n c xs:=h.keep fun _ hp=>hb.cell hp
theorem Reads.drew (h:Reads w B size A n c xs):Reads w.drew B size A n c xs:=h
theorem Reads.alloc (h:Reads w B size A n c xs) (hB:B≤w.heap.size) (o:Obj):Reads (w.alloc o) B size A n c xs:=h.keep fun p hp=>World.cell?_alloc_lt w o p (by omega)
theorem Reads.of_own {base:Nat} {e:TypeId} (h:w.ownsRow base e size (.slice A n c) n xs):Reads w w.heap.size size A n c xs:=by
 obtain ⟨hl,h2⟩:=h
 rcases h2 with ⟨h3,h4⟩ | ⟨g,cap,cur,hv,hg,hh,hnc,hcm,hcs,htk⟩
 ·simp only [Value.slice.injEq] at h3
  obtain ⟨rfl,rfl,rfl⟩:=h3
  exact ⟨zzF _,by omega,hl,fun h=>absurd h (by omega)⟩
 ·simp only [Value.slice.injEq,true_and] at hv
  obtain ⟨rfl,rfl⟩:=hv
  have hcm':c≤9223372036854775807:=by unfold maxLen at hcm;omega
  refine ⟨hnc,hcm',hl,fun hn=>⟨g,0,rfl,(Array.getElem?_eq_some_iff.1 hh).1,fun j u hu=>?_⟩⟩
  have:=World.ownsRow.cells (w:=w) (base:=base) (e:=e) (size:=size) (v:=.slice (some ⟨g,0,none⟩) n c) (n:=n) (xs:=xs) ⟨hl,.inr ⟨g,c,cur,rfl,hg,hh,hnc,hcm,hcs,htk⟩⟩ (g:=g) rfl j u hu
  rwa [add_lit] at this
theorem own_lit (w:World) (base:Nat) (e:TypeId) (size k:Nat) (cs:Array Value) (xs:List Value) (hb:base≤w.heap.size) (hx:cs.toList=xs) (hl:xs.length=k*size) (hk:k≤9223372036854775807) :
  (w.alloc (.cells cs e)).ownsRow base e size (.slice (some ⟨w.heap.size,0,none⟩) k k) k xs:=by
 refine ⟨hl,.inr ⟨w.heap.size,k,cs,rfl,hb,heap_alloc_new w _,zzF _,by unfold maxLen;omega,?_,?_⟩⟩
 ·rw [←hl,←hx,Array.length_toList]
 ·rw [hx,List.take_of_length_le (by omega)]
end
theorem below_grown {w w':World} {B:Nat} (h:Below B w w') (hB:w.heap.size≤B) (row:Option Nat):w.grownBy w' row:=⟨h.os,h.tape,h.output,h.size,fun k hk _=>h.block k (by omega)⟩
theorem own_drewN {w:World} {base:Nat} {e:TypeId} {size:Nat} {v:Value} {n:Nat} {xs:List Value} (h:w.ownsRow base e size v n xs) (k:Nat):(w.drewN k).ownsRow base e size v n xs:=h
theorem own_below {w w':World} {base:Nat} {e:TypeId} {size:Nat} {v:Value} {n:Nat} {xs:List Value} (h:w.ownsRow base e size v n xs) (hb:Below w.heap.size w w'):w'.ownsRow base e size v n xs :=
 h.kept (below_grown hb (zzF _) none) (by cases v.ownBlock <;> simp)
def Blk (w:World) (g:Nat) (t:TypeId) (cs:List Value):Prop:=w.heap[g]?=some (.cells cs.toArray t (0,0))
section
variable {w w':World} {g:Nat} {t:TypeId} {cs:List Value}
theorem Blk.raw (h:Blk w g t cs):w.heap[g]?=some (.cells cs.toArray t (0,0)):=h
theorem Blk.lt (h:Blk w g t cs):g < w.heap.size:=by
 rcases Nat.lt_or_ge g w.heap.size with hlt | hge
 ·exact hlt
 ·unfold Blk at h;rw [Array.getElem?_eq_none hge] at h;cases h
theorem Blk.cell (h:Blk w g t cs) (i:Nat):w.cell? ⟨g,i,none⟩=cs[i]?:=by
 rw [cell_of_row w g i cs.toArray t (0,0) h];simp
theorem Blk.frozen (h:Blk w g t cs) (i:Nat):w.frozen? ⟨g,i,none⟩=false:=by
 unfold Blk at h
 simp [World.frozen?,h]
theorem Blk.new (w:World) (t:TypeId) (cs:List Value):Blk (w.alloc (.cells cs.toArray t)) w.heap.size t cs:=heap_alloc_new w _
theorem Blk.drew (h:Blk w g t cs):Blk w.drew g t cs:=h
theorem Blk.drewN (h:Blk w g t cs) (n:Nat):Blk (w.drewN n) g t cs:=h
theorem Blk.alloc (h:Blk w g t cs) (o:Obj):Blk (w.alloc o) g t cs:=(Below.heap_alloc w o g h.lt).trans h
theorem Blk.set_ (h:Blk w g t cs) (i:Nat) (u:Value):Blk (w.setCell ⟨g,i,none⟩ u) g t (cs.set i u):=by
 unfold Blk at h ⊢
 simp [World.setCell,Array.getElem?_modify,h]
theorem Blk.far (h:Blk w g t cs) {p:Addr} (hp:g≠p.block) (u:Value):Blk (w.setCell p u) g t cs:=(Below.heap_setCell w p u g hp).trans h
theorem Blk.below {B:Nat} (h:Blk w g t cs) (hb:Below B w w') (hg:g < B):Blk w' g t cs:=(hb.block g hg).trans h
theorem Blk.grown {row:Option Nat} (h:Blk w g t cs) (hb:w.grownBy w' row) (hg:some g≠row):Blk w' g t cs:=(hb.block g h.lt hg).trans h
theorem Blk.reads (h:Blk w g t cs) {size n c:Nat} (hn:n≤c) (hc:c≤9223372036854775807) (hl:n*size≤cs.length):Reads w w.heap.size size (some ⟨g,0,none⟩) n c (cs.take (n*size)):=by
 refine ⟨hn,hc,by rw [List.length_take];omega,fun _=>⟨g,0,rfl,h.lt,fun j u hu=>?_⟩⟩
 rw [zzw,h.cell]
 rw [List.getElem?_take] at hu
 split at hu
 ·exact hu
 ·cases hu
theorem Blk.own (h:Blk w g t cs) {base size n c:Nat} (hb:base≤g) (hn:n≤c) (hc:c≤9223372036854775807) (hl:cs.length=c*size):w.ownsRow base t size (.slice (some ⟨g,0,none⟩) n c) n (cs.take (n*size)):=by
 have hm:n*size≤c*size:=Nat.mul_le_mul_right _ hn
 exact ⟨by rw [List.length_take];omega,.inr ⟨g,c,cs.toArray,rfl,hb,h,hn,by unfold maxLen;omega,by simp [hl],by simp⟩⟩
theorem Blk.ne_ {g':Nat} {t':TypeId} {cs':List Value} (h:Blk w g t cs) (h':Blk w g' t' cs') (hne:t≠t'):g≠g':=by
 rintro rfl
 unfold Blk at h h'
 rw [h] at h'
 injection h' with h'
 injection h' with _ ht
 exact hne ht
end
theorem bc3 {w:World} {b:Nat} {t:TypeId} {v0 v1 v2:Value} {vs:List Value} (h:Blk w b t (v0 :: v1 :: v2 :: vs)):w.cell? ⟨b,0,none⟩=some v0∧w.cell? ⟨b,1,none⟩=some v1∧w.cell? ⟨b,2,none⟩=some v2:=⟨h.cell 0,h.cell 1,h.cell 2⟩
theorem bc8 {w:World} {b:Nat} {t:TypeId} {v0 v1 v2 v3 v4 v5 v6 v7:Value} {vs:List Value} (h:Blk w b t (v0 :: v1 :: v2 :: v3 :: v4 :: v5 :: v6 :: v7 :: vs)):w.cell? ⟨b,0,none⟩=some v0∧w.cell? ⟨b,1,none⟩=some v1∧w.cell? ⟨b,2,none⟩=some v2∧w.cell? ⟨b,3,none⟩=some v3∧w.cell? ⟨b,4,none⟩=some v4∧w.cell? ⟨b,5,none⟩=some v5∧w.cell? ⟨b,6,none⟩=some v6∧w.cell? ⟨b,7,none⟩=some v7:=⟨h.cell 0,h.cell 1,h.cell 2,h.cell 3,h.cell 4,h.cell 5,h.cell 6,h.cell 7⟩
theorem bc9 {w:World} {b:Nat} {t:TypeId} {v0 v1 v2 v3 v4 v5 v6 v7 v8:Value} {vs:List Value} (h:Blk w b t (v0 :: v1 :: v2 :: v3 :: v4 :: v5 :: v6 :: v7 :: v8 :: vs)):w.cell? ⟨b,0,none⟩=some v0∧w.cell? ⟨b,1,none⟩=some v1∧w.cell? ⟨b,2,none⟩=some v2∧w.cell? ⟨b,3,none⟩=some v3∧w.cell? ⟨b,4,none⟩=some v4∧w.cell? ⟨b,5,none⟩=some v5∧w.cell? ⟨b,6,none⟩=some v6∧w.cell? ⟨b,7,none⟩=some v7∧w.cell? ⟨b,8,none⟩=some v8:=⟨h.cell 0,h.cell 1,h.cell 2,h.cell 3,h.cell 4,h.cell 5,h.cell 6,h.cell 7,h.cell 8⟩
structure Appended (base:Nat) (e:TypeId) (size:Nat) (v v':Value) (n m:Nat) (xs news:List Value) (w w':World):Prop where
 own:w'.ownsRow base e size v' (n+m) (xs++news)
 keep:w'.ownsRow base e size v n xs
 grown:w.grownBy w' v.ownBlock
 at_:v'.ownBlock=v.ownBlock∨v'.ownBlock=some w.heap.size
section
variable {P:Program} (w:World)
theorem run_append_keep (base:Nat) (t ty e:TypeId) (i:TypeInfo) (z:Value) (size bytes:Nat) (ht:P.underlying t=some (.slice e)) (hi:P.info? e=some i) (hz:i.zero=some z)
  (hsize:i.size=size) (hby:i.bytes=bytes) (hzs:z.cells.size=size) (hsz:0 < size)
  (v:Value) (n:Nat) (xs:List Value) (hown:w.ownsRow base e size v n xs)
  (a:Addr) (m c:Nat) (news:List Value) (hl:news.length=m*size) (hnews:∀ j u,news[j]?=some u→w.cell? (a.add j)=some u) (h1:∀ u∈news,u.oneCell'=true)
  (h63:n+m≤maxLen) (hbytes:(n+m)*bytes≤140737488355328) (hbase:base≤w.heap.size) :
  ∃ v' w',(Builtin.append_ #[t,t] ty #[v,.slice (some a) m c]).run P w=.ok v' w'∧Appended base e size v v' n m xs news w w':=by
 obtain ⟨v',w',hrun,ho,hg,_,hat⟩:=run_append_own_at (P:=P) w base t ty e i z size bytes ht hi hz hsize hby hzs hsz v n xs hown a m c news hl hnews h1 h63 hbytes hbase
 refine ⟨v',w',hrun,ho,?_,hg,hat⟩
 subst hsize
 subst hby
 have hsmall:n+m≤9223372036854775807:=by simp only [maxLen] at h63;omega
 rcases hown.2 with ⟨rfl,rfl⟩ | ⟨g,cap,cur,rfl,hbg,hgg,hnc,hcm,hcs,htake⟩
 ·exact ⟨hown.1,.inl ⟨rfl,rfl⟩⟩
 ·by_cases hroom:n+m≤cap
  ·have hfit:n*i.size+news.length≤cur.size:=by rw [hl,hcs,←Nat.add_mul];exact Nat.mul_le_mul_right _ hroom
   have hr:=run_append_room (P:=P) w t ty e i ht hi g n cap cur hgg a m c news hl hnews h1 hroom hfit
   rw [hr] at hrun
   injection hrun with _ hw
   subst hw
   refine ⟨hown.1,.inr ⟨g,cap,_,rfl,hbg,setRow_heap w g cur _ e _ hgg,hnc,hcm,?_,?_⟩⟩
   ·simp only [List.size_toArray,zzG,List.length_take,List.length_drop,Array.length_toList]
    omega
   ·rw [htake]
    have hxl:=hown.1
    simp only [zyF]
    rw [←hxl]
    exact List.take_left
  ·have holds:∀ j u,xs[j]?=some u→w.cell? ((⟨g,0,none⟩:Addr).add j)=some u:=hown.cells (g:=g) rfl
   have hr:=run_append_grow (P:=P) w t ty e i z ht hi hz ⟨g,0,none⟩ n cap xs hown.1 holds a m c news hl hnews (by omega) (by omega) (growslice_fits (by omega) hbytes)
   rw [hr] at hrun
   injection hrun with _ hw
   subst hw
   exact World.ownsRow.alloc (World.ownsRow.drew hown) _
theorem wpList_append_keep {ops:Array Oper} {rest:List Oper} {o:Oper} {a:Act} {Q:Exit→Act→World→Prop} (hgd:o.guard=none) (s x:Operand) (t:TypeId)
  (ho:o.op=.call { callee:=.builtin .append,args:=#[s,x],argTypes:=#[t,t] })
  (base:Nat) (e:TypeId) (i:TypeInfo) (z:Value) (size bytes:Nat) (ht:P.underlying t=some (.slice e)) (hi:P.info? e=some i) (hz:i.zero=some z)
  (hsize:i.size=size) (hby:i.bytes=bytes) (hzs:z.cells.size=size) (hsz:0 < size)
  (v:Value) (n:Nat) (xs:List Value) (hs:a.eval s=v) (hown:w.ownsRow base e size v n xs)
  (ad:Addr) (m c:Nat) (news:List Value) (hx:a.eval x=.slice (some ad) m c) (hl:news.length=m*size) (hnews:∀ j u,news[j]?=some u→w.cell? (ad.add j)=some u) (h1:∀ u∈news,u.oneCell'=true)
  (h63:n+m≤maxLen) (hbytes:(n+m)*bytes≤140737488355328) (hbase:base≤w.heap.size)
  (h:∀ v' w',Appended base e size v v' n m xs news w w'→wpList P ops Q rest (a.put o.dst v') w') :
  wpList P ops Q (o :: rest) a w:=by
 refine wpList_plain hgd fun K hK=>?_
 obtain ⟨v',w',hr,h2⟩:=run_append_keep (P:=P) w base t o.type e i z size bytes ht hi hz hsize hby hzs hsz v n xs hown ad m c news hl hnews h1 h63 hbytes hbase
 unfold Oper.wp execOp
 simp only [ho,resolve,invoke,builtin,Sem.run_bind,Sem.run_pure,Result.andThen_ok,List.map_toArray,zzS,zzt,hs,hx,hr]
 exact hK _ _ (h v' w' h2)
end
theorem blk_apart {w:World} {base:Nat} {e t:TypeId} {size:Nat} {v:Value} {n g:Nat} {xs cs:List Value} (hv:w.ownsRow base e size v n xs) (hg:Blk w g t cs) (hne:e≠t):some g≠v.ownBlock:=by
 rcases hv.2 with ⟨rfl,_⟩ | ⟨b,cap,cur,rfl,_,hh,_⟩
 ·simp [Value.ownBlock]
 ·intro h
  obtain rfl:g=b:=by simpa [Value.ownBlock] using h
  unfold Blk at hg
  rw [hh] at hg
  injection hg with hg
  injection hg with _ ht
  exact hne ht
theorem own_form {w:World} {base:Nat} {e:TypeId} {size:Nat} {A:Option Addr} {n n' c:Nat} {xs:List Value} (h:w.ownsRow base e size (.slice A n' c) n xs) (hn:0 < n):∃ g,A=some ⟨g,0,none⟩∧n'=n∧base≤g∧g < w.heap.size:=by
 rcases h.2 with ⟨_,h0⟩ | ⟨g,cap,cur,hv,hb,hh,_⟩
 ·omega
 ·simp only [Value.slice.injEq] at hv
  exact ⟨g,hv.1,hv.2.1,hb,(Array.getElem?_eq_some_iff.1 hh).1⟩
theorem own_shape {w:World} {base:Nat} {e:TypeId} {size:Nat} {v:Value} {n:Nat} {xs:List Value} (h:w.ownsRow base e size v n xs):∃ A c,v=.slice A n c:=by
 rcases h.2 with ⟨rfl,rfl⟩ | ⟨g,cap,cur,rfl,_⟩
 ·exact ⟨_,_,rfl⟩
 ·exact ⟨_,_,rfl⟩
def encR (x:Int × Int):List Value:=[.int .i64 x.1,.int .i64 x.2]
def flat (l:List (Int × Int)):List Value:=l.flatMap encR
theorem flat_length (l:List (Int × Int)):(flat l).length=l.length*2:=by
 induction l with
 | nil=>rfl
 | cons x l ih=>simp only [flat,zzl,zzG,zzO] at *;simp only [encR,zzO,List.length_nil];omega
theorem flat_one (l:List (Int × Int)):∀ u∈flat l,u.oneCell'=true:=by
 intro u hu
 simp only [flat,zzs,encR] at hu
 obtain ⟨x,_,hx⟩:=hu
 simp at hx
 rcases hx with rfl | rfl <;> rfl
theorem flat_get:∀ (l:List (Int × Int)) (j:Nat) (x:Int × Int),l[j]?=some x→(flat l)[j*2]?=some (.int .i64 x.1)∧(flat l)[j*2+1]?=some (.int .i64 x.2)
 | [],j,x,h=>by simp at h
 | y :: l,0,x,h=>by
  simp only [zzR,zzd] at h
  subst h
  exact ⟨rfl,rfl⟩
 | y :: l,j+1,x,h=>by
  have:=flat_get l j x (by simpa using h)
  have e1:(j+1)*2=j*2+2:=by omega
  rw [e1]
  exact this
theorem own_lower {w:World} {base base':Nat} {e:TypeId} {size:Nat} {v:Value} {n:Nat} {xs:List Value} (h:w.ownsRow base e size v n xs) (hb:base'≤base):w.ownsRow base' e size v n xs :=
 ⟨h.1,h.2.imp id fun ⟨g,cap,cur,h1,h2,h3⟩=>⟨g,cap,cur,h1,by omega,h3⟩⟩
section
variable {P:Program} {w:World}
theorem wpList_append_reads {ops:Array Oper} {rest:List Oper} {o:Oper} {a:Act} {Q:Exit→Act→World→Prop} (hgd:o.guard=none) (s x:Operand) (t:TypeId)
  (ho:o.op=.call { callee:=.builtin .append,args:=#[s,x],argTypes:=#[t,t] })
  (base:Nat) (e:TypeId) (i:TypeInfo) (z:Value) (size bytes:Nat) (ht:P.underlying t=some (.slice e)) (hi:P.info? e=some i) (hz:i.zero=some z)
  (hsize:i.size=size) (hby:i.bytes=bytes) (hzs:z.cells.size=size) (hsz:0 < size)
  (v:Value) (n:Nat) (xs:List Value) (hs:a.eval s=v) (hown:w.ownsRow base e size v n xs)
  (A:Option Addr) (B m c:Nat) (news:List Value) (hx:a.eval x=.slice A m c) (hA:A=none→c=0) (hr:Reads w B size A m c news) (h1:∀ u∈news,u.oneCell'=true)
  (h63:n+m≤maxLen) (hbytes:(n+m)*bytes≤140737488355328) (hbase:base≤w.heap.size)
  (h:∀ v' w',Appended base e size v v' n m xs news w w'→wpList P ops Q rest (a.put o.dst v') w') :
  wpList P ops Q (o :: rest) a w:=by
 cases A with
 | none =>
  obtain rfl:c=0:=hA rfl
  obtain rfl:m=0:=by have:=hr.le;omega
  obtain rfl:news=[]:=zzq (by rw [hr.len,Nat.zero_mul])
  exact wpList_append_own_none hgd s x t ho base e i size ht hi v n xs hs hown hx (h v w ⟨by simpa using hown,hown,World.grownBy.refl _ _,.inl rfl⟩)
 | some ad =>
  refine wpList_append_keep _ hgd s x t ho base e i z size bytes ht hi hz hsize hby hzs hsz v n xs hs hown ad m c news hx hr.len (fun j u hu=>?_) h1 h63 hbytes hbase h
  have hm:0 < m:=by
   rcases Nat.eq_zero_or_pos m with h0 | h0
   ·subst h0
    have:=hr.len
    rw [Nat.zero_mul] at this
    rw [zzq this] at hu
    cases hu
   ·exact h0
  obtain ⟨b,off,e1,_,hc⟩:=hr.at_ hm
  obtain rfl:=Option.some.inj e1
  rw [add_lit]
  exact hc j u hu
theorem step_append_reads {ops:Array Oper} {o:Oper} {a:Act} {K:Act→World→Prop} {Q:Exit→Act→World→Prop} {E:Prop} (hgd:o.guard=none) (s x:Operand) (t:TypeId)
  (ho:o.op=.call { callee:=.builtin .append,args:=#[s,x],argTypes:=#[t,t] })
  (base:Nat) (e:TypeId) (i:TypeInfo) (z:Value) (size bytes:Nat) (ht:P.underlying t=some (.slice e)) (hi:P.info? e=some i) (hz:i.zero=some z)
  (hsize:i.size=size) (hby:i.bytes=bytes) (hzs:z.cells.size=size) (hsz:0 < size)
  (v:Value) (n:Nat) (xs:List Value) (hs:a.eval s=v) (hown:w.ownsRow base e size v n xs)
  (A:Option Addr) (B m c:Nat) (news:List Value) (hx:a.eval x=.slice A m c) (hA:A=none→c=0) (hr:Reads w B size A m c news) (h1:∀ u∈news,u.oneCell'=true)
  (h63:n+m≤maxLen) (hbytes:(n+m)*bytes≤140737488355328) (hbase:base≤w.heap.size)
  (h:∀ A' c' w',Appended base e size v (.slice A' (n+m) c') n m xs news w w'→K (a.put o.dst (.slice A' (n+m) c')) w') :
  if Region.wanted o (yielded ops a.tmps)=true then Oper.wp P o a w K Q else E:=by
 have hw:Region.wanted o (yielded ops a.tmps)=true:=by simp [Region.wanted,hgd]
 rw [if_pos hw]
 obtain ⟨v',w',hr1,h2⟩:∃ v' w',(Builtin.append_ #[t,t] o.type #[v,.slice A m c]).run P w=.ok v' w'∧Appended base e size v v' n m xs news w w':=by
  cases A with
  | none =>
   obtain rfl:c=0:=hA rfl
   obtain rfl:m=0:=by have:=hr.le;omega
   obtain rfl:news=[]:=zzq (by rw [hr.len,Nat.zero_mul])
   exact ⟨v,w,run_append_owned_none w base t o.type e i size ht hi v n xs hown,⟨by simpa using hown,hown,World.grownBy.refl _ _,.inl rfl⟩⟩
  | some ad =>
   refine run_append_keep (P:=P) w base t o.type e i z size bytes ht hi hz hsize hby hzs hsz v n xs hown ad m c news hr.len (fun j u hu=>?_) h1 h63 hbytes hbase
   have hm:0 < m:=by
    rcases Nat.eq_zero_or_pos m with h0 | h0
    ·subst h0
     have:=hr.len
     rw [Nat.zero_mul] at this
     rw [zzq this] at hu
     cases hu
    ·exact h0
   obtain ⟨b,off,e1,_,hc⟩:=hr.at_ hm
   obtain rfl:=Option.some.inj e1
   rw [add_lit]
   exact hc j u hu
 have h3:=h2.own
 obtain ⟨A',c',rfl⟩:∃ A' c',v'=.slice A' (n+m) c':=own_shape h3
 unfold Oper.wp execOp
 simp only [ho,resolve,invoke,builtin,Sem.run_bind,Sem.run_pure,Result.andThen_ok,List.map_toArray,zzS,zzt,hs,hx,hr1]
 exact h A' c' w' h2
end
structure Kept (w w':World) (L:List Nat):Prop where
 os:w'.os=w.os
 tape:w'.tape=w.tape
 output:w'.output=w.output
 size:w.heap.size≤w'.heap.size
 block:∀ k,k < w.heap.size→k ∉ L→w'.heap[k]?=w.heap[k]?
section
variable {w w' w'':World} {L M:List Nat}
theorem Kept.refl:Kept w w L:=⟨rfl,rfl,rfl,zzF _,fun _ _ _=>rfl⟩
theorem Kept.trans (h:Kept w w' L) (g:Kept w' w'' M):Kept w w'' (L++M) :=
 ⟨g.os.trans h.os,g.tape.trans h.tape,g.output.trans h.output,zzU h.size g.size,fun k hk hn=>by
  rw [zzM,not_or] at hn
  exact (g.block k (zzQ hk h.size) hn.2).trans (h.block k hk hn.1)⟩
theorem Kept.more (h:Kept w w' L) (hs:∀ k∈L,k∈M∨w.heap.size≤k):Kept w w' M :=
 ⟨h.os,h.tape,h.output,h.size,fun k hk hn=>h.block k hk fun hm=>by
  rcases hs k hm with g | g
  ·exact hn g
  ·omega⟩
theorem Kept.of_below (h:Below w.heap.size w w'):Kept w w' L:=⟨h.os,h.tape,h.output,h.size,fun k hk _=>h.block k hk⟩
theorem Kept.of_grown' {row:Option Nat} (h:w.grownBy w' row):Kept w w' row.toList:=⟨h.os,h.tape,h.output,h.size,fun k hk hn=>h.block k hk (fun e=>hn (by rw [←e];simp))⟩
theorem Kept.setCell (p:Addr) (u:Value):Kept w (w.setCell p u) [p.block] :=
 ⟨rfl,rfl,rfl,by simp [World.setCell],fun k _ hn=>Below.heap_setCell w p u k (by simpa using hn)⟩
theorem Kept.alloc (o:Obj):Kept w (w.alloc o) L:=Kept.of_below ((zzb _ _).alloc (zzF _) o)
theorem Kept.drew:Kept w w.drew L:=⟨rfl,rfl,rfl,zzF _,fun _ _ _=>rfl⟩
theorem Kept.below {B:Nat} (h:Kept w w' L) (hL:∀ k∈L,B≤k) (hB:B≤w.heap.size):Below B w w' :=
 ⟨h.os,h.tape,h.output,h.size,fun k hk=>h.block k (by omega) fun hm=>by have:=hL k hm;omega⟩
theorem Below.kept {B:Nat} {w0:World} (h:Below B w0 w) (g:Kept w w' L) (hL:∀ k∈L,B≤k) (hB:B≤w.heap.size):Below B w0 w':=h.trans (g.below hL hB)
theorem Kept.cell (h:Kept w w' L) {p:Addr} (hp:p.block < w.heap.size) (hn:p.block ∉ L):w'.cell? p=w.cell? p:=World.cell?_of_block (h.block _ hp hn)
theorem Blk.kept {g:Nat} {t:TypeId} {cs:List Value} (h:Blk w g t cs) (k:Kept w w' L) (hn:g ∉ L):Blk w' g t cs:=(k.block g h.lt hn).trans h
theorem own_kept {base:Nat} {e:TypeId} {size:Nat} {v:Value} {n:Nat} {xs:List Value} (h:w.ownsRow base e size v n xs) (k:Kept w w' L) (hn:∀ b,v.ownBlock=some b→b ∉ L):w'.ownsRow base e size v n xs:=by
 refine ⟨h.1,h.2.imp id fun ⟨g,cap,cur,hv,hb,hh,h3⟩=>⟨g,cap,cur,hv,hb,?_,h3⟩⟩
 have hlt:=(Array.getElem?_eq_some_iff.1 hh).1
 rw [k.block g hlt (hn g (by rw [hv];rfl))]
 exact hh
end
abbrev zyG := @Kept.setCell
abbrev zyH := @Below.kept
abbrev zyI := @Blk.new
abbrev zyJ := @Kept.trans
def isRow (d:TypeDesc):Bool:=match d with | .struct _ | .array _ _=>true | _=>false
theorem results_cell_tmp_row {P:Program} {fn:Func} {p u:Tmp} {ty:TypeId} (h:fn.results=#[.cell p ty,.tmp u]) (tmps:Array Value) (w:World) (g:Nat) (t:TypeId) (cs:Array Value) (d:TypeDesc)
  (hp:tmps.getD p undef=.pointer (some ⟨g,0,none⟩)) (hg:Blk w g t cs.toList)
  (hu:P.underlying ty=some d) (hd:isRow d=true) (hi:(P.info? ty).map (·.size)=some cs.size) :
  (results fn tmps).run P w=.ok (.tuple #[.agg cs,tmps.getD u undef]) w:=by
 have hp':tmps[p]?.getD undef=.pointer (some ⟨g,0,none⟩):=by simpa using hp
 rw [results_cell_tmp h]
 simp [asAddr,hp',Result.andThen,run_loadVar_row w g t ty cs (0,0) d hg hu (by cases d <;> first | rfl | (simp [isRow] at hd)) hi]
theorem results_cell_one {P:Program} {fn:Func} {p:Tmp} {ty:TypeId} (h:fn.results=#[.cell p ty]) (tmps:Array Value) (w:World) (g:Nat) (t:TypeId) (cs:Array Value) (d:TypeDesc)
  (hp:tmps.getD p undef=.pointer (some ⟨g,0,none⟩)) (hg:Blk w g t cs.toList)
  (hu:P.underlying ty=some d) (hd:isRow d=true) (hi:(P.info? ty).map (·.size)=some cs.size) :
  (results fn tmps).run P w=.ok (.agg cs) w :=
 Go.results_cell_row h tmps w g t cs (0,0) d hp hg hu (by cases d <;> first | rfl | (simp [isRow] at hd)) hi
theorem two_below (w:World) (o o':Obj):Below w.heap.size w ((w.alloc o).alloc o'):=((zzb _ _).alloc (zzF _) _).alloc (by simp) _
theorem two_blk (w:World) (o:Obj) (t:TypeId) (cs:List Value):Blk ((w.alloc o).alloc (.cells cs.toArray t)) (w.heap.size+1) t cs:=by
 have:=zyI (w.alloc o) t cs
 rw [show (w.alloc o).heap.size=w.heap.size+1 from by simp] at this
 exact this
theorem blk_eq {w:World} {g:Nat} {t:TypeId} {cs cs':List Value} (h:Blk w g t cs) (e:cs=cs'):Blk w g t cs':=e ▸ h
end Go.Proofs.YtgkclnmmjedmkaaGreat
