/- prog's maker: an instruction of the row is turned. -/
import Derived.Test.YtgkclnmmjedmkaaGreatP34
set_option maxRecDepth 100000
set_option maxHeartbeats 1000000
namespace Go.Proofs.YtgkclnmmjedmkaaGreat
open Go.RowKit Mach Tr
variable {X:List Nat}
def fX (x:Int) (I:Ins):Ins:=⟨I.op,x,I.y,I.arg,I.rng⟩
def fY (y:Int) (I:Ins):Ins:=⟨I.op,I.x,y,I.arg,I.rng⟩
def atI (a:InV) (I:Ins):InV:=⟨I,a.A,a.n,a.c⟩
section
variable {rb g c0 i n:Nat} {v:Value} {w w':World} {L L':List InV} {c:List Ins} {a:InV}
theorem LP.setX {k:Nat} (h:LP X rb v w L n c (.slice (some ⟨g,0,none⟩) k c0) L' w') (hk:k=L'.length) (ha:L'[i]?=some a) (hi:L.length≤i) (x:Int) :
  LP X rb v w L n (c.modify (i - L.length) (fX x)) (.slice (some ⟨g,0,none⟩) k c0) (L'.set i (atI a (fX x a.I))) (w'.setCell ⟨g,i*5+1,none⟩ (.int .i64 x)):=by
 subst hk
 have hr:=h.row.set_ (q:=1) (x:=.int .i64 x) (u:=atI a (fX x a.I)) ha (by omega) rfl (h.row.els a (zzL ha))
 rw [zzu] at hr
 exact h.mod (fX x) ha rfl hi hr RowI.set_k (fun _=>rfl)
theorem LP.setY {k:Nat} (h:LP X rb v w L n c (.slice (some ⟨g,0,none⟩) k c0) L' w') (hk:k=L'.length) (ha:L'[i]?=some a) (hi:L.length≤i) (y:Int) :
  LP X rb v w L n (c.modify (i - L.length) (fY y)) (.slice (some ⟨g,0,none⟩) k c0) (L'.set i (atI a (fY y a.I))) (w'.setCell ⟨g,i*5+2,none⟩ (.int .i64 y)):=by
 subst hk
 have hr:=h.row.set_ (q:=2) (x:=.int .i64 y) (u:=atI a (fY y a.I)) ha (by omega) rfl (h.row.els a (zzL ha))
 rw [zzu] at hr
 exact h.mod (fY y) ha rfl hi hr RowI.set_k (fun _=>rfl)
theorem LP.setXY {k:Nat} (h:LP X rb v w L n c (.slice (some ⟨g,0,none⟩) k c0) L' w') (hk:k=L'.length) (ha:L'[i]?=some a) (hi:L.length≤i) (x y:Int) :
  LP X rb v w L n (c.modify (i - L.length) (fun I=>fY y (fX x I))) (.slice (some ⟨g,0,none⟩) k c0) (L'.set i (atI a (fY y (fX x a.I)))) ((w'.setCell ⟨g,i*5+1,none⟩ (.int .i64 x)).setCell ⟨g,i*5+2,none⟩ (.int .i64 y)):=by
 have hil:i < L'.length:=(zzK.1 ha).1
 have h1:=(h.setX hk ha hi x).setY (by rw [zzu];exact hk) (a:=atI a (fX x a.I)) (by rw [List.getElem?_set_self hil]) hi y
 rw [List.set_set,List.modify_modify_eq] at h1
 exact h1
theorem LP.finish {m:Nat} {d:List Ins} {v':Value} (h:LP X rb v w L n c v' L' w') (hn:n=m) (hc:L'.length≤20000→c=d):LP X rb v w L m d v' L' w':=by
 subst hn
 exact ⟨h.row,h.rk,h.ge,h.le,fun hk=>by rw [h.ok hk,hc hk]⟩
theorem LP.slice {A:Option Addr} (h:LP X rb v w L n c (.slice A L'.length c0) L' w') (hne:0 < L'.length):∃ g,A=some ⟨g,0,none⟩∧rb≤g∧g < w'.heap.size:=by
 obtain ⟨g,hg,-,h1,h2⟩:=own_form h.row.own hne
 exact ⟨g,hg,h1,h2⟩
theorem LP.frozen {k:Nat} (h:LP X rb v w L n c (.slice (some ⟨g,0,none⟩) k c0) L' w') (hk:k=L'.length) (j:Nat):w'.frozen? ⟨g,j,none⟩=false:=by subst hk;exact own_frozen h.row.own j
theorem LP.cellX {k:Nat} (h:LP X rb v w L n c (.slice (some ⟨g,0,none⟩) k c0) L' w') (hk:k=L'.length) (ha:L'[i]?=some a):w'.cell? ⟨g,i*5+1,none⟩=some (.int .i64 a.I.x):=by subst hk;exact own_cell h.row.own (insRow_get L' i 1 a ha (by omega))
theorem LP.cellY {k:Nat} (h:LP X rb v w L n c (.slice (some ⟨g,0,none⟩) k c0) L' w') (hk:k=L'.length) (ha:L'[i]?=some a):w'.cell? ⟨g,i*5+2,none⟩=some (.int .i64 a.I.y):=by subst hk;exact own_cell h.row.own (insRow_get L' i 2 a ha (by omega))
theorem next_cell (rb:Nat) (A:Option Addr) (n c:Nat) (w:World) (e0:w.cell? ⟨rb,0,none⟩=some (.slice A n c)) :
  Calls Tryz.prog 44 #[.pointer (some ⟨rb,0,none⟩)] w fun e w'=>e=.returned (.int .i64 n)∧w'=w:=by
 go_enter Tryz.func44,Tryz.ntmps44
 go_wp2_with fail
 go_ret
 exact ⟨rfl,rfl⟩
theorem LP.at0 {v':Value} {I:Ins} (h:LP X rb v w L n (I :: c) v' L' w') (ha:L'[L.length]?=some a) (hl:L'.length≤20000):a.I=I:=by
 have h1:(insL L')[L.length]?=some a.I:=by unfold insL;rw [zza,ha];rfl
 rw [h.ok hl,zzz (by rw [insL_len];exact zzF _),insL_len,Nat.sub_self] at h1
 exact (Option.some.inj h1).symm
theorem modify_last (c:List Ins) (x:Ins) (f:Ins→Ins) (k:Nat) (hk:k=c.length):(c++[x]).modify k f=c++[f x]:=by
 subst hk
 induction c with
 | nil=>rfl
 | cons y c ih=>rw [zzi,zzO,List.modify_succ_cons,ih];rfl
end
end Go.Proofs.YtgkclnmmjedmkaaGreat
namespace Go.Proofs.YtgkclnmmjedmkaaGreat
open Go.RowKit Mach Tr
variable {X:List Nat}
def altP:List Tr.Tr→Nat→List Ins
 | [],_=>[]
 | t :: l,b=>⟨2,(b+1:Nat),(b+1+lenS t+1:Nat),0,[]⟩ :: (codeS t (b+1)++⟨7,(b+1+lenS t+1:Nat),0,0,[]⟩ :: altP l (b+1+lenS t+1))
def nopsS:List Tr.Tr→Nat→List Nat
 | [],_=>[]
 | t :: l,b=>(b+1+lenS t) :: nopsS l (b+1+lenS t+1)
theorem altP_length:∀ (l:List Tr.Tr) (b:Nat),(altP l b).length=lensS l+2*l.length
 | [],b=>rfl
 | t :: l,b=>by rw [altP,lensS,zzO,zzG,zzO,altP_length l,code_length,zzO];omega
theorem altP_app:∀ (l:List Tr.Tr) (t:Tr.Tr) (b:Nat),altP (l++[t]) b=altP l b++(⟨2,((b+(lensS l+2*l.length)+1:Nat):Int),((b+(lensS l+2*l.length)+1+lenS t+1:Nat):Int),0,[]⟩ :: (codeS t (b+(lensS l+2*l.length)+1)++[⟨7,((b+(lensS l+2*l.length)+1+lenS t+1:Nat):Int),0,0,[]⟩]))
 | [],t,b=>rfl
 | u :: l,t,b=>by
  rw [zzi,altP,altP_app l t,altP,lensS,zzO]
  have e:b+1+lenS u+1+(lensS l+2*l.length)=b+(lenS u+lensS l+2*(l.length+1)):=by omega
  rw [e,zzi,zyF,zzi]
theorem nopsS_app:∀ (l:List Tr.Tr) (t:Tr.Tr) (b:Nat),nopsS (l++[t]) b=nopsS l b++[b+(lensS l+2*l.length)+1+lenS t]
 | [],t,b=>rfl
 | u :: l,t,b=>by
  rw [zzi,nopsS,nopsS_app l t,nopsS,lensS,zzO,zzi]
  have e:b+1+lenS u+1+(lensS l+2*l.length)=b+(lenS u+lensS l+2*(l.length+1)):=by omega
  rw [e]
theorem modify_mid (c d:List Ins) (x:Ins) (f:Ins→Ins) (k:Nat) (hk:k=c.length):(c++x :: d).modify k f=c++f x :: d:=by
 subst hk
 induction c with
 | nil=>rfl
 | cons y c ih=>rw [zzi,zzO,List.modify_succ_cons,ih];rfl
theorem altP_end (e:Nat) (t:Tr.Tr):∀ (l:List Tr.Tr) (b b0:Nat) (pre:List Ins),b=b0+pre.length →
  (nopsS l b).foldl (fun c o=>c.modify (o - b0) (fX (e:Int))) (pre++(altP l b++codeS t (b+(lensS l+2*l.length))))=pre++altS (l++[t]) b e
 | [],b,b0,pre,h=>by
  rw [nopsS,altP,zzn,zzn,List.foldl_nil,altS,if_pos (show ([]:List Tr.Tr).isEmpty=true from rfl)]
  rfl
 | u :: l,b,b0,pre,h=>by
  rw [nopsS,List.foldl_cons,altP,show altS (u :: l++[t]) b e=altS (u :: (l++[t])) b e from rfl,altS,if_neg (by simp),zzi]
  have ih:=altP_end e t l (b+1+lenS u+1) b0 (pre++⟨2,(b+1:Nat),(b+1+lenS u+1:Nat),0,[]⟩ :: (codeS u (b+1)++[⟨7,(e:Nat),0,0,[]⟩])) (by rw [zzG,zzO,zzG,code_length,List.length_singleton];omega)
  have e1:b+(lensS (u :: l)+2*(u :: l).length)=b+1+lenS u+1+(lensS l+2*l.length):=by rw [lensS,zzO];omega
  rw [e1]
  have e2:(pre++(⟨2,((b+1:Nat):Int),((b+1+lenS u+1:Nat):Int),0,[]⟩ :: ((codeS u (b+1)++(⟨7,((b+1+lenS u+1:Nat):Int),0,0,[]⟩ :: altP l (b+1+lenS u+1)))++codeS t (b+1+lenS u+1+(lensS l+2*l.length))))).modify (b+1+lenS u - b0) (fX (e:Int))=(pre++⟨2,(b+1:Nat),(b+1+lenS u+1:Nat),0,[]⟩ :: (codeS u (b+1)++[⟨7,(e:Nat),0,0,[]⟩]))++(altP l (b+1+lenS u+1)++codeS t (b+1+lenS u+1+(lensS l+2*l.length))):=by
   have:=modify_mid (pre++⟨2,(b+1:Nat),(b+1+lenS u+1:Nat),0,[]⟩ :: codeS u (b+1)) (altP l (b+1+lenS u+1)++codeS t (b+1+lenS u+1+(lensS l+2*l.length))) ⟨7,(b+1+lenS u+1:Nat),0,0,[]⟩ (fX (e:Int)) (b+1+lenS u - b0) (by rw [zzG,zzO,code_length];omega)
   simp only [zyF,zzi,zzn] at this ⊢
   exact this
  rw [e2,ih]
  simp only [zyF,zzi,zzn]
structure OR (rb B:Nat) (v o:Value) (os:List Nat) (w:World):Prop where
 own:w.ownsRow B 3 1 o os.length (os.map fun n:Nat=>Value.int .i64 (n:Int))
 ne:∀ b,o.ownBlock=some b→b≠rb∧v.ownBlock≠some b
section
variable {rb B g n:Nat} {v v1 o:Value} {os:List Nat} {w w1 w':World} {L L':List InV} {c:List Ins} {ty:TypeId} {cs:List Value}
theorem OR.nil:OR rb B v (.slice none 0 0) [] w:=⟨World.ownsRow_nil _ _ _ _,fun b h=>by cases h⟩
theorem OR.below (h:OR rb B v o os w) (hb:Below w.heap.size w w1):OR rb B v o os w1:=⟨own_below h.own hb,h.ne⟩
theorem RKI.or (h:RKI rb v w v1 w1) (n:OR rb B v o os w):OR rb B v1 o os w1:=by
 refine ⟨own_kept n.own h.kept fun b hb hm=>?_,fun b hb=>⟨(n.ne b hb).1,fun e=>?_⟩⟩
 ·rcases zzN.1 hm with hm | hm
  ·exact (n.ne b hb).1 hm
  ·exact (n.ne b hb).2 (by simpa using hm)
 ·rcases h.ow with f | ⟨y,f,hy⟩
  ·exact (n.ne b hb).2 (f.symm.trans e)
  ·rw [f] at e
   have:=(n.own.lt b hb).2
   simp at e
   omega
theorem LP.grow {n' c':Nat} {A:Option Addr} (h:LP ((Value.slice A n' c').ownBlock.toList++X) rb v w L n c v1 L' w1) (hk:Kept w1 w' (Value.slice A n' c').ownBlock.toList) (ho:∀ b,(Value.slice A n' c').ownBlock=some b→w.heap.size≤b∧b≠rb∧v1.ownBlock≠some b) (hg:(Value.slice A n' c').ownBlock=some g∨w1.heap.size≤g) (hlt:g < w'.heap.size) :
  LP (g :: X) rb v w L n c v1 L' w':=by
 have hn:rb ∉ (Value.slice A n' c').ownBlock.toList:=fun hm=>(ho rb (by simpa using hm)).2.1 rfl
 have hL:∀ x∈(rb :: v1.ownBlock.toList)++(g :: X),x∈(rb :: v1.ownBlock.toList)++((Value.slice A n' c').ownBlock.toList++X)∨w1.heap.size≤x∨x < rb:=fun x hx=>by
  rcases zzM.1 hx with hx | hx
  ·exact .inl (zzW _ hx)
  ·rcases zzN.1 hx with rfl | hx
   ·rcases hg with hg | hg
    ·exact .inl (zzV _ (zzW _ (by rw [hg];simp)))
    ·exact .inr (.inl hg)
   ·exact .inl (zzV _ (zzV _ hx))
 refine ⟨⟨h.row.blk.kept hk hn,own_kept h.row.own hk (fun b hb hm=>(ho b (by simpa using hm)).2.2 hb),fun u hu=>(h.row.els u hu).fr_kept hk (fun b hb=>.inl (zzV _ (zzW _ hb))) hL,h.row.sep,fun x hx=>?_⟩,⟨(h.rk.kept.trans hk).more ?_,h.rk.ow⟩,h.ge,h.le,h.ok⟩
 ·rcases zzN.1 hx with rfl | hx
  ·exact hlt
  ·exact zzQ (h.row.xs x (zzV _ hx)) hk.size
 ·intro x hx
  rcases zzM.1 hx with hx | hx
  ·exact .inl hx
  ·exact .inr (ho x (by simpa using hx)).1
theorem LP.more {X':List Nat} (h:LP X rb v w L n c v1 L' w') (hX:∀ x∈X',x∈X):LP X' rb v w L n c v1 L' w':=⟨h.row.more hX,h.rk,h.ge,h.le,h.ok⟩
theorem NB.kept {g:Nat} {M:List Nat} (h:NB rb g ty cs v w) (hk:Kept w w' M) (hg:g ∉ M):NB rb g ty cs v w':=⟨h.blk.kept hk hg,h.ne,h.sep⟩
theorem NB.below {g:Nat} (h:NB rb g ty cs v w) (hk:Below w.heap.size w w'):NB rb g ty cs v w':=⟨h.blk.below hk h.blk.lt,h.ne,h.sep⟩
end
theorem info_int0:(Tryz.prog.info? 3).map (fun i=>(i.zero,i.size,i.bytes))=some (some (.int .i64 0),1,8):=by kernel_rfl
end Go.Proofs.YtgkclnmmjedmkaaGreat
