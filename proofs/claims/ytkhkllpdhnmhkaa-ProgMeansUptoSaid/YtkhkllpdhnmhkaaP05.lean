/- The program of a simple tree: how long it is, that it may be. No program here. -/
import Derived.Test.YtkhkllpdhnmhkaaP02
import Derived.Test.YtkhkllpdhnmhkaaP03
import Derived.Test.YtkhkllpdhnmhkaaP04
namespace Go.Proofs.Ytkhkllpdhnmhkaa.Tr
open Go.Proofs.Ytkhkllpdhnmhkaa.Mach
mutual
def lenS:Tr→Nat
 | .mk k _ _ l n m _ _ _ =>
  if k=2∨k=3 then 1
  else if k=7 then lensS l+2
  else if k=5 then lensS l+2*(l.length - 1)
  else if k=6 then lensS l+(if n=1 then 1 else if m < 0 then 2 else 1)
  else lensS l
def lensS:List Tr→Nat
 | []=>0
 | t :: l=>lenS t+lensS l
end
def altI (z:Bool) (x y:Nat):Ins:=if z then ⟨2,y,x,0,[]⟩ else ⟨2,x,y,0,[]⟩
mutual
def codeS:Tr→Nat→List Ins
 | .mk k r a l n m z i _,b =>
  if k=2 then (if r=[] then [⟨6,0,0,0,[]⟩] else [⟨1,(b+1:Nat),0,0,r⟩])
  else if k=3 then [⟨4,(b+1:Nat),0,a,[]⟩]
  else if k=7 then ⟨3,(b+1:Nat),0,2*i,[]⟩ :: (codesS l (b+1)++[⟨3,(b+1+lensS l+1:Nat),0,2*i+1,[]⟩])
  else if k=5 then altS l b (b+(lensS l+2*(l.length - 1)))
  else if k=6 then
   (if n=1 then codesS l b++[altI z b (b+lensS l+1)]
    else if m < 0 then altI z (b+1) (b+1+lensS l+1) :: (codesS l (b+1)++[⟨7,(b:Nat),0,0,[]⟩])
    else altI z (b+1) (b+1+lensS l) :: codesS l (b+1))
  else codesS l b
def codesS:List Tr→Nat→List Ins
 | [],_=>[]
 | t :: l,b=>codeS t b++codesS l (b+lenS t)
def altS:List Tr→Nat→Nat→List Ins
 | [],_,_=>[]
 | t :: l,b,e=>if l.isEmpty then codeS t b else ⟨2,(b+1:Nat),(b+1+lenS t+1:Nat),0,[]⟩ :: (codeS t (b+1)++⟨7,(e:Nat),0,0,[]⟩ :: altS l (b+1+lenS t+1) e)
end
def progL (s:Tr):List Ins:=⟨3,(1:Nat),0,0,[]⟩ :: (codeS s 1++[⟨3,(lenS s+2:Nat),0,1,[]⟩,⟨5,0,0,0,[]⟩])
theorem codes_length (l:List Tr) (ih:∀ s∈l,∀ b,(codeS s b).length=lenS s):∀ b,(codesS l b).length=lensS l:=by
 induction l with
 | nil=>intro b;rfl
 | cons t l ihl =>
  intro b
  rw [codesS,lensS,zzG,ih t zzH,ihl fun s hs=>ih s (zzI _ hs)]
theorem alt_length (l:List Tr) (ih:∀ s∈l,∀ b,(codeS s b).length=lenS s):∀ b e,(altS l b e).length=lensS l+2*(l.length - 1):=by
 induction l with
 | nil=>intro b e;rfl
 | cons t l ihl =>
  intro b e
  have h:=ihl fun s hs=>ih s (zzI _ hs)
  rw [altS,lensS,zzO]
  cases l with
  | nil=>simp [ih t zzH,lensS]
  | cons u l =>
   rw [if_neg (by simp),zzO,zzG,zzO,ih t zzH,h]
   simp only [zzO]
   omega
theorem code_length:∀ (t:Tr) (b:Nat),(codeS t b).length=lenS t:=by
 intro t
 induction t using Tr.ind with
 | h t ih =>
  intro b
  cases t with
  | mk k r a l n m z i s =>
   have h1:=codes_length l ih
   have h2:=alt_length l ih
   rw [codeS,lenS]
   by_cases k2:k=2
   ·rw [if_pos k2,if_pos (show k=2∨k=3 from .inl k2)];split <;> rfl
   by_cases k3:k=3
   ·rw [if_neg k2,if_pos k3,if_pos (show k=2∨k=3 from .inr k3)];rfl
   rw [if_neg k2,if_neg k3,if_neg (show ¬(k=2∨k=3) from fun h=>h.elim k2 k3)]
   by_cases k7:k=7
   ·rw [if_pos k7,if_pos k7,zzO,zzG,h1];simp
   rw [if_neg k7,if_neg k7]
   by_cases k5:k=5
   ·rw [if_pos k5,if_pos k5,h2]
   rw [if_neg k5,if_neg k5]
   by_cases k6:k=6
   ·rw [if_pos k6,if_pos k6]
    by_cases hn:n=1
    ·rw [if_pos hn,if_pos hn,zzG,h1];simp
    rw [if_neg hn,if_neg hn]
    by_cases hm:m < 0
    ·rw [if_pos hm,if_pos hm,zzO,zzG,h1];simp
    ·rw [if_neg hm,if_neg hm,zzO,h1]
   ·rw [if_neg k6,if_neg k6]
    exact h1 b
theorem lens_le (l:List Tr) (ih:∀ s∈l,lenS s+2≤3*size s):lensS l+2*l.length≤3*sizes l:=by
 induction l with
 | nil=>simp [lensS,sizes]
 | cons t l ihl =>
  have h1:=ih t zzH
  have h2:=ihl fun s hs=>ih s (zzI _ hs)
  rw [lensS,sizes,zzO]
  omega
theorem len_le:∀ t:Tr,allB t=true→lenS t+2≤3*size t:=by
 intro t
 induction t using Tr.ind with
 | h t ih =>
  intro h
  cases kinds h with
  | empty=>decide
  | cls r hr=>rw [lenS,if_pos (show (2:Int)=2∨(2:Int)=3 from .inl rfl),size,sizes];omega
  | ass a ha=>rw [lenS,if_pos (show (3:Int)=2∨(3:Int)=3 from .inr rfl),size,sizes];omega
  | cat l h2 hs =>
   have h1:=lens_le l fun s hs'=>ih s hs' (hs s hs')
   rw [catT,lenS,size,if_neg (by decide),if_neg (by decide),if_neg (by decide),if_neg (by decide)]
   omega
  | alt l h2 hs =>
   have h1:=lens_le l fun s hs'=>ih s hs' (hs s hs')
   rw [altT,lenS,size,if_neg (by decide),if_neg (by decide),if_pos rfl]
   omega
  | rep x n m z hx h0 h1 hm =>
   have h1:=lens_le [x] fun s hs'=>ih s hs' (by rw [zzE] at hs';rw [hs'];exact hx)
   rw [List.length_singleton] at h1
   rw [repT,lenS,size,if_neg (by decide),if_neg (by decide),if_neg (by decide),if_pos rfl]
   split
   ·omega
   ·split <;> omega
  | group x i s hx h0 h1 hm =>
   have h1:=lens_le [x] fun s hs'=>ih s hs' (by rw [zzE] at hs';rw [hs'];exact hx)
   rw [List.length_singleton] at h1
   rw [groupT,lenS,size,if_neg (by decide),if_pos rfl]
   omega
theorem prog_length (s:Tr):(progL s).length=lenS s+3:=by
 unfold progL
 rw [zzO,zzG,code_length];simp
mutual
def greatest:Tr→Int
 | .mk _ _ _ l _ _ _ i _=>greatests l i
def greatests:List Tr→Int→Int
 | [],g=>g
 | t :: l,g=>greatests l (max g (greatest t))
end
theorem greatests_ge:∀ (l:List Tr) (g:Int),g≤greatests l g∧∀ t∈l,greatest t≤greatests l g
 | [],g=>⟨Int.le_refl _,by simp⟩
 | t :: l,g=>by
  obtain ⟨h1,h2⟩:=greatests_ge l (max g (greatest t))
  rw [greatests]
  refine ⟨by omega,fun u hu=>?_⟩
  rcases zzN.1 hu with rfl | hu
  ·omega
  ·exact h2 u hu
theorem greatests_le:∀ (l:List Tr) (g c:Int),g≤c→(∀ t∈l,greatest t≤c)→greatests l g≤c
 | [],g,c,h,_=>h
 | t :: l,g,c,h,hl=>by
  rw [greatests]
  exact greatests_le l _ c (by have:=hl t zzH;omega) fun u hu=>hl u (zzI _ hu)
theorem occs_mem {l:List Tr} {u:Lab} (h:u∈occs l):∃ t∈l,u∈occ t:=by
 induction l with
 | nil=>cases h
 | cons t l ih =>
  rw [occs] at h
  rcases zzM.1 h with h | h
  ·exact ⟨t,zzH,h⟩
  ·obtain ⟨x,hx,h⟩:=ih h
   exact ⟨x,zzI _ hx,h⟩
theorem mem_occs {l:List Tr} {t:Tr} {u:Lab} (ht:t∈l) (h:u∈occ t):u∈occs l:=by
 induction l with
 | nil=>cases ht
 | cons x l ih =>
  rw [occs]
  rcases zzN.1 ht with rfl | ht
  ·exact zzW _ h
  ·exact zzV _ (ih ht)
theorem occ_great:∀ (t:Tr) (u:Lab),u∈occ t→u.1≤greatest t:=by
 intro t
 induction t using Tr.ind with
 | h t ih =>
  intro u hu
  cases t with
  | mk k r a l n m z i s =>
   rw [occ] at hu
   rw [greatest]
   obtain ⟨h1,h2⟩:=greatests_ge l i
   split at hu
   ·cases hu
   ·rcases zzM.1 hu with hu | hu
    ·split at hu
     ·rw [zzE] at hu
      rw [hu];exact h1
     ·cases hu
    ·obtain ⟨x,hx,hu⟩:=occs_mem hu
     exact Int.le_trans (ih x hx u hu) (h2 x hx)
theorem sound_great:∀ t:Tr,allB t=true→0≤greatest t∧greatest t≤500∧∀ u∈occ t,1≤u.1:=by
 intro t
 induction t using Tr.ind with
 | h t ih =>
  intro h
  have hl:∀ (l:List Tr) (g:Int),0≤g→g≤500→(∀ s∈l,allB s=true)→(∀ s∈l,allB s=true→0≤greatest s∧greatest s≤500∧∀ u∈occ s,1≤u.1)→0≤greatests l g∧greatests l g≤500∧∀ u∈occs l,1≤u.1:=by
   intro l g h0 h1 hs ih
   refine ⟨Int.le_trans h0 (greatests_ge l g).1,greatests_le l g 500 h1 fun t ht=>(ih t ht (hs t ht)).2.1,fun u hu=>?_⟩
   obtain ⟨x,hx,hu⟩:=occs_mem hu
   exact (ih x hx (hs x hx)).2.2 u hu
  cases kinds h with
  | empty=>exact ⟨by decide,by decide,by intro u hu;cases hu⟩
  | cls r hr=>exact ⟨Int.le_refl 0,show (0:Int)≤500 by decide,by intro u hu;cases hu⟩
  | ass a ha=>exact ⟨Int.le_refl 0,show (0:Int)≤500 by decide,by intro u hu;cases hu⟩
  | cat l h2 hs=>rw [occ_cat];exact hl l 0 (by decide) (by decide) hs ih
  | alt l h2 hs=>rw [occ_alt];exact hl l 0 (by decide) (by decide) hs ih
  | rep x n m z hx h0 h1 hm =>
   have:=hl [x] 0 (by decide) (by decide) (by intro s hs;rw [zzE] at hs;rw [hs];exact hx) ih
   refine ⟨this.1,this.2.1,fun u hu=>?_⟩
   rw [repT,occ] at hu
   split at hu
   ·cases hu
   ·rw [if_neg (by decide),List.nil_append] at hu
    exact this.2.2 u hu
  | group x i s hx h0 h1 hm =>
   have:=hl [x] i (by omega) h1 (by intro s hs;rw [zzE] at hs;rw [hs];exact hx) ih
   refine ⟨this.1,this.2.1,fun u hu=>?_⟩
   rw [groupT,occ,if_neg (by rintro ⟨h,_⟩;cases h),if_pos rfl] at hu
   rcases zzM.1 hu with hu | hu
   ·rw [zzE] at hu
    rw [hu];exact h0
   ·exact this.2.2 u hu
theorem may_altI {z:Bool} {x y N:Nat} {caps:Int} (hx:x < N) (hy:y < N):mayB (altI z x y) N caps=true:=by
 unfold altI mayB
 cases z <;> simp <;> omega
theorem code_may {caps:Int}:∀ (t:Tr),Good t→(∀ u∈occ t,0≤u.1∧2*u.1+1 < caps)→∀ (b N:Nat),b+lenS t < N→∀ x∈codeS t b,mayB x N caps=true:=by
 intro t
 induction t using Tr.ind with
 | h t ih =>
  intro hg ho b N hN x hx
  have hs2:=((simpB_iff t 0).1 hg.2).2.2
  have hcodes:∀ (l:List Tr),(∀ s∈l,Good s)→(∀ s∈l,∀ u∈occ s,0≤u.1∧2*u.1+1 < caps)→(∀ s∈l,Good s→(∀ u∈occ s,0≤u.1∧2*u.1+1 < caps)→∀ (b N:Nat),b+lenS s < N→∀ x∈codeS s b,mayB x N caps=true)→∀ b:Nat,b+lensS l < N→∀ x∈codesS l b,mayB x N caps=true:=by
   intro l
   induction l with
   | nil=>intro _ _ _ b _ x hx;cases hx
   | cons t l ihl =>
    intro h1 h2 h3 b hb x hx
    rw [lensS] at hb
    rw [codesS] at hx
    rcases zzM.1 hx with hx | hx
    ·exact h3 t zzH (h1 t zzH) (h2 t zzH) b N (by omega) x hx
    ·exact ihl (fun s hs=>h1 s (zzI _ hs)) (fun s hs=>h2 s (zzI _ hs)) (fun s hs=>h3 s (zzI _ hs)) (b+lenS t) (by omega) x hx
  have halts:∀ (l:List Tr),(∀ s∈l,Good s)→(∀ s∈l,∀ u∈occ s,0≤u.1∧2*u.1+1 < caps)→(∀ s∈l,Good s→(∀ u∈occ s,0≤u.1∧2*u.1+1 < caps)→∀ (b N:Nat),b+lenS s < N→∀ x∈codeS s b,mayB x N caps=true)→∀ b e:Nat,b+(lensS l+2*(l.length - 1)) < N→e < N→∀ x∈altS l b e,mayB x N caps=true:=by
   intro l
   induction l with
   | nil=>intro _ _ _ b e _ _ x hx;cases hx
   | cons t l ihl =>
    intro h1 h2 h3 b e hb he x hx
    rw [lensS,zzO] at hb
    rw [altS] at hx
    cases l with
    | nil =>
     rw [if_pos (show ([]:List Tr).isEmpty=true from rfl)] at hx
     exact h3 t zzH (h1 t zzH) (h2 t zzH) b N (by omega) x hx
    | cons u l =>
     simp only [zzO] at hb
     rw [if_neg (by simp)] at hx
     rcases zzN.1 hx with rfl | hx
     ·unfold mayB;simp;omega
     ·rcases zzM.1 hx with hx | hx
      ·exact h3 t zzH (h1 t zzH) (h2 t zzH) (b+1) N (by omega) x hx
      ·rcases zzN.1 hx with rfl | hx
       ·unfold mayB;simp;omega
       ·exact ihl (fun s hs=>h1 s (zzI _ hs)) (fun s hs=>h2 s (zzI _ hs)) (fun s hs=>h3 s (zzI _ hs)) _ e (by simp only [zzO];omega) he x hx
  have hgood:∀ (l:List Tr) (k:Int),(∀ s∈l,allB s=true)→(∀ s∈l,simpB s k=true)→∀ s∈l,Good s:=fun l k h1 h2 s hs=>⟨h1 s hs,simpB_above (h2 s hs) (badIn_far (by decide) (by decide))⟩
  cases kinds hg.1 with
  | empty =>
   rw [emptyT,codeS,if_neg (by decide),if_neg (by decide),if_neg (by decide),if_neg (by decide),if_neg (by decide)] at hx
   cases hx
  | cls r hr =>
   rw [lenS,if_pos (.inl rfl)] at hN
   rw [codeS,if_pos rfl] at hx
   split at hx
   ·rw [zzE] at hx;subst hx;unfold mayB;simp
   ·rename_i hr0
    rw [zzE] at hx;subst hx;unfold mayB
    rw [if_pos rfl,zzc,decide_eq_true_eq]
    exact ⟨⟨by simp only [];omega,by simp only [];omega,rfl,rfl,hr0⟩,hr⟩
  | ass a ha =>
   rw [lenS,if_pos (.inr rfl)] at hN
   rw [codeS,if_neg (by decide),if_pos rfl,zzE] at hx
   subst hx
   unfold mayB
   rw [if_neg (by simp),if_neg (by simp),if_neg (by simp),if_pos rfl,zzc,decide_eq_true_eq]
   exact ⟨⟨by simp only [];omega,by simp only [];omega,rfl,rfl⟩,ha⟩
  | cat l h2 hs =>
   rw [catT,lenS,if_neg (by decide),if_neg (by decide),if_neg (by decide),if_neg (by decide)] at hN
   rw [catT,codeS,if_neg (by decide),if_neg (by decide),if_neg (by decide),if_neg (by decide),if_neg (by decide)] at hx
   rw [occ_cat] at ho
   exact hcodes l (hgood l 4 hs hs2) (fun s hs' u hu=>ho u (mem_occs hs' hu)) ih b (by omega) x hx
  | alt l h2 hs =>
   rw [altT,lenS,if_neg (by decide),if_neg (by decide),if_pos rfl] at hN
   rw [altT,codeS,if_neg (by decide),if_neg (by decide),if_neg (by decide),if_pos rfl] at hx
   rw [occ_alt] at ho
   exact halts l (hgood l 5 hs hs2) (fun s hs' u hu=>ho u (mem_occs hs' hu)) ih b _ (by omega) (by omega) x hx
  | rep y n m z hy h0 h1 hm =>
   have hb:=((simpB_iff _ 0).1 hg.2).1
   rw [repT,badRep,decide_eq_false_iff_not] at hb
   rw [occ_rep y (by omega)] at ho
   have hgl:=hgood [y] 6 (by intro s hs;rw [zzE] at hs;rw [hs];exact hy) hs2
   have hol:∀ s∈[y],∀ u∈occ s,0≤u.1∧2*u.1+1 < caps:=by intro s hs;rw [zzE] at hs;rw [hs];exact ho
   rw [repT,lenS,if_neg (by decide),if_neg (by decide),if_neg (by decide),if_pos rfl] at hN
   rw [repT,codeS,if_neg (by decide),if_neg (by decide),if_neg (by decide),if_neg (by decide),if_pos rfl] at hx
   split at hx
   ·rename_i hn
    rw [if_pos hn] at hN
    rcases zzM.1 hx with hx | hx
    ·exact hcodes [y] hgl hol ih b (by omega) x hx
    ·rw [zzE] at hx;subst hx
     exact may_altI (by omega) (by omega)
   ·rename_i hn
    rw [if_neg hn] at hN
    split at hx
    ·rename_i hm2
     rw [if_pos hm2] at hN
     rcases zzN.1 hx with rfl | hx
     ·exact may_altI (by omega) (by omega)
     ·rcases zzM.1 hx with hx | hx
      ·exact hcodes [y] hgl hol ih (b+1) (by omega) x hx
      ·rw [zzE] at hx;subst hx
       unfold mayB;simp;omega
    ·rename_i hm2
     rw [if_neg hm2] at hN
     rcases zzN.1 hx with rfl | hx
     ·exact may_altI (by omega) (by omega)
     ·exact hcodes [y] hgl hol ih (b+1) (by omega) x hx
  | group y i s hy h0 h1 hm =>
   have hgl:=hgood [y] 7 (by intro s hs;rw [zzE] at hs;rw [hs];exact hy) hs2
   have ho2:(i,s)∈occ (groupT y i s):=by rw [groupT,occ,if_neg (by rintro ⟨h,_⟩;cases h),if_pos rfl];exact zzW _ zzH
   have hol:∀ q∈[y],∀ u∈occ q,0≤u.1∧2*u.1+1 < caps:=by
    intro q hq u hu
    rw [zzE] at hq
    rw [hq] at hu
    refine ho u ?_
    rw [groupT,occ,if_neg (by rintro ⟨h,_⟩;cases h),if_pos rfl]
    exact zzV _ (mem_occs (l:=[y]) zzH hu)
   have hi:=ho _ ho2
   simp only [] at hi
   rw [groupT,lenS,if_neg (by decide),if_pos rfl] at hN
   rw [groupT,codeS,if_neg (by decide),if_neg (by decide),if_pos rfl] at hx
   rcases zzN.1 hx with rfl | hx
   ·unfold mayB;simp;omega
   ·rcases zzM.1 hx with hx | hx
    ·exact hcodes [y] hgl hol ih (b+1) (by omega) x hx
    ·rw [zzE] at hx;subst hx
     unfold mayB;simp;omega
theorem prog_may {t:Tr} (h:allB t=true) (hl:(progL (simpleS t)).length≤20000):checkB ⟨progL (simpleS t),0,2+2*greatest t⟩=true:=by
 obtain ⟨g0,g1,g2⟩:=sound_great t h
 have hpl:=prog_length (simpleS t)
 unfold checkB
 rw [zzc]
 refine ⟨?_,?_⟩
 ·unfold headB
  rw [decide_eq_true_eq]
  simp only []
  omega
 ·rw [List.all_eq_true]
  intro x hx
  simp only [] at hx ⊢
  unfold progL at hx
  rcases zzN.1 hx with rfl | hx
  ·unfold mayB;simp;omega
  ·rcases zzM.1 hx with hx | hx
   ·refine code_may (simpleS t) (simple_good t h) (fun u hu=>?_) 1 _ (by omega) x hx
    have hu2:=(simple_occ t h u).1 hu
    have:=occ_great t u hu2
    have:=g2 u hu2
    omega
   ·rcases zzN.1 hx with rfl | hx
    ·unfold mayB;simp;omega
    ·rw [zzE] at hx;subst hx
     unfold mayB;simp
end Go.Proofs.Ytkhkllpdhnmhkaa.Tr
namespace Go.Proofs.Ytkhkllpdhnmhkaa
open Tr
def nodeOk (g:Int) (k:Int) (r:List (Int × Int)) (a i:Int) (n:Nat):Prop :=
 (k=1∨k=2∨k=3∨k=4∨k=5∨k=7∨k=-1∨k=-2∨k=-3)∧(k=2→rightB r=true)∧(k=3→∃ j:Nat,j < 6∧a=((2 ^ j:Nat):Int))∧(k=7→0≤i∧i≤g)∧(k=7∨k=-1∨k=-2∨k=-3→0 < n)
mutual
def okS (g:Int):Us→Prop
 | .mk k r a i _ l=>nodeOk g k r a i l.length∧okSs g l
def okSs (g:Int):List Us→Prop
 | []=>True
 | u :: l=>okS g u∧okSs g l
end
theorem okSs_iff {g:Int}:∀ l:List Us,okSs g l ↔ ∀ u∈l,okS g u
 | []=>by simp [okSs]
 | u :: l=>by rw [okSs,okSs_iff l];simp
theorem nodeOk.mono {g g' k a i:Int} {r:List (Int × Int)} {n:Nat} (h:nodeOk g k r a i n) (hg:g≤g'):nodeOk g' k r a i n :=
 ⟨h.1,h.2.1,h.2.2.1,fun e=>⟨(h.2.2.2.1 e).1,Int.le_trans (h.2.2.2.1 e).2 hg⟩,h.2.2.2.2⟩
mutual
theorem okS_mono {g g':Int} (hg:g≤g'):∀ u:Us,okS g u→okS g' u
 | .mk _ _ _ _ _ l,h=>⟨h.1.mono hg,okSs_mono hg l h.2⟩
theorem okSs_mono {g g':Int} (hg:g≤g'):∀ l:List Us,okSs g l→okSs g' l
 | [],_=>trivial
 | u :: l,h=>⟨okS_mono hg u h.1,okSs_mono hg l h.2⟩
end
section
variable {g:Int} {x:Us}
theorem empty_ok:okS g emptyU:=⟨⟨.inl rfl,by simp,by simp,by simp,by simp⟩,trivial⟩
theorem loop_ok {k:Int} {z:Bool} (hk:k=-1∨k=-2∨k=-3) (h:okS g x):okS g (loopU k z x):=by
 refine ⟨⟨by omega,fun e=>by omega,fun e=>by omega,fun e=>by omega,fun _=>by simp⟩,h,trivial⟩
theorem cat_ok {l:List Us} (h:∀ u∈l,okS g u):okS g (catU l):=⟨⟨by omega,fun e=>by omega,fun e=>by omega,fun e=>by omega,fun e=>by omega⟩,(okSs_iff l).2 h⟩
theorem opt_ok {z:Bool} (h:okS g x):∀ n:Nat,okS g (optU z x n)
 | 0=>loop_ok (.inl rfl) h
 | n+1=>loop_ok (.inl rfl) (cat_ok fun u hu=>by
  simp only [zzN,List.not_mem_nil,or_false] at hu
  rcases hu with rfl | rfl
  ·exact h
  ·exact opt_ok h n)
end
theorem assert_pow {a:Int} (h:assertB a=true):∃ j:Nat,j < 6∧a=((2 ^ j:Nat):Int):=by
 unfold assertB at h
 simp only [Bool.or_eq_true,beq_iff_eq] at h
 rcases h with ((((h | h) | h) | h) | h) | h
 ·exact ⟨0,by decide,by rw [h];rfl⟩
 ·exact ⟨1,by decide,by rw [h];rfl⟩
 ·exact ⟨2,by decide,by rw [h];rfl⟩
 ·exact ⟨3,by decide,by rw [h];rfl⟩
 ·exact ⟨4,by decide,by rw [h];rfl⟩
 ·exact ⟨5,by decide,by rw [h];rfl⟩
theorem node_ok {k:Int} {r:List (Int × Int)} {a n m:Int} {z:Bool} {i g:Int} {s:ByteArray} {q:Nat} (h:nodeF k r a q n m z i s=true) (hk:k≠6) (hg:i≤g):nodeOk g k r a i q:=by
 unfold nodeF at h
 by_cases k1:k=1
 ·subst k1;exact ⟨by omega,fun e=>by omega,fun e=>by omega,fun e=>by omega,fun e=>by omega⟩
 rw [if_neg k1] at h
 by_cases k2:k=2
 ·subst k2
  simp only [reduceIte,zzc] at h
  exact ⟨by omega,fun _=>h.2.2,fun e=>by omega,fun e=>by omega,fun e=>by omega⟩
 rw [if_neg k2] at h
 by_cases k3:k=3
 ·subst k3
  simp only [reduceIte,zzc] at h
  exact ⟨by omega,fun e=>by omega,fun _=>assert_pow h.2.2,fun e=>by omega,fun e=>by omega⟩
 rw [if_neg k3] at h
 by_cases k4:k=4
 ·subst k4;exact ⟨by omega,fun e=>by omega,fun e=>by omega,fun e=>by omega,fun e=>by omega⟩
 rw [if_neg k4] at h
 by_cases k5:k=5
 ·subst k5;exact ⟨by omega,fun e=>by omega,fun e=>by omega,fun e=>by omega,fun e=>by omega⟩
 rw [if_neg k5,if_neg hk] at h
 by_cases k7:k=7
 ·subst k7
  simp only [reduceIte,zzc,beq_iff_eq,decide_eq_true_eq] at h
  exact ⟨by omega,fun e=>by omega,fun e=>by omega,fun _=>⟨by omega,hg⟩,fun _=>by omega⟩
 ·rw [if_neg k7] at h;cases h
mutual
theorem all_ok {g:Int}:∀ u:Mean.Un,okS g (shU u)→∀ n∈u.all,nodeOk g n.kind n.rng n.ast n.ix n.subs.length
 | .mk ad k r a i z l,h=>fun n hn=>by
  rw [Mean.Un.all] at hn
  rw [shU] at h
  rcases zzN.1 hn with rfl | hn
  ·have:=h.1
   rwa [shUs_map,zzP] at this
  ·exact alls_ok l h.2 n hn
theorem alls_ok {g:Int}:∀ l:List Mean.Un,okSs g (shUs l)→∀ n∈Mean.allU l,nodeOk g n.kind n.rng n.ast n.ix n.subs.length
 | [],_=>fun n hn=>by rw [Mean.allU] at hn;cases hn
 | u :: l,h=>fun n hn=>by
  rw [Mean.allU] at hn
  rw [shUs] at h
  rcases zzM.1 hn with hn | hn
  ·exact all_ok u h.1 n hn
  ·exact alls_ok l h.2 n hn
end
mutual
def szU:Us→Nat
 | .mk _ _ _ _ _ l=>szUs l+1
def szUs:List Us→Nat
 | []=>0
 | u :: l=>szU u+szUs l
end
mutual
theorem all_len:∀ u:Mean.Un,u.all.length=szU (shU u)
 | .mk _ _ _ _ _ _ l=>by rw [Mean.Un.all,zzO,shU,szU,alls_len l]
theorem alls_len:∀ l:List Mean.Un,(Mean.allU l).length=szUs (shUs l)
 | []=>rfl
 | u :: l=>by rw [Mean.allU,zzG,shUs,szUs,all_len u,alls_len l]
end
end Go.Proofs.Ytkhkllpdhnmhkaa
namespace Go.Proofs.Ytkhkllpdhnmhkaa
open Tr Mach
def It (R:Nat→Nat→Prop):Nat→Nat→Nat→Prop
 | 0,i,j=>i=j
 | q+1,i,j=>∃ k,R i k∧It R q k j
theorem It.add {R:Nat→Nat→Prop}:∀ {p q i j:Nat},It R (p+q) i j ↔ ∃ k,It R p i k∧It R q k j
 | 0,q,i,j=>by rw [Nat.zero_add];exact ⟨fun h=>⟨i,rfl,h⟩,fun ⟨k,h1,h2⟩=>by cases (show i=k from h1);exact h2⟩
 | p+1,q,i,j=>by
  rw [show p+1+q=(p+q)+1 from by omega]
  constructor
  ·rintro ⟨k,h1,h2⟩
   obtain ⟨k2,h3,h4⟩:=It.add.1 h2
   exact ⟨k2,⟨k,h1,h3⟩,h4⟩
  ·rintro ⟨k2,⟨k,h1,h3⟩,h4⟩
   exact ⟨k,h1,It.add.2 ⟨k2,h3,h4⟩⟩
theorem It.congr {R R':Nat→Nat→Prop} (h:∀ i j,R i j ↔ R' i j):∀ {q i j:Nat},It R q i j ↔ It R' q i j
 | 0,_,_=>Iff.rfl
 | q+1,i,j=>⟨fun ⟨k,h1,h2⟩=>⟨k,(h _ _).1 h1,(It.congr h).1 h2⟩,fun ⟨k,h1,h2⟩=>⟨k,(h _ _).2 h1,(It.congr h).2 h2⟩⟩
end Go.Proofs.Ytkhkllpdhnmhkaa
namespace Go.Proofs.Ytkhkllpdhnmhkaa
open Tr Mach
namespace Mean
section
variable {t:List Int} {at_:Nat}
theorem one_fun {s a b:St} {k:Task} (h:One t at_ s k a) (g:One t at_ s k b):a=b:=by
 obtain ⟨n,hn⟩:=one_run h
 obtain ⟨m,hm⟩:=one_run g
 have h1:=run_more (s:=s) (hn 1 []) m
 have h2:=run_more (s:=s) (hm 1 []) n
 rw [show m+1+n=n+1+m from by omega] at h2
 rw [h1] at h2
 exact Option.some.inj h2
end
def Un.mapAd (f:Nat→Nat):Un→Un
 | .mk a k r b i z l=>.mk (f a) k r b i z (l.map (Un.mapAd f))
section
variable {f:Nat→Nat}
theorem mapAd_eq (u:Un):u.mapAd f=.mk (f u.ad) u.kind u.rng u.ast u.ix u.lz (u.subs.map (Un.mapAd f)):=by cases u;rw [Un.mapAd];rfl
theorem mapAd_ad (u:Un):(u.mapAd f).ad=f u.ad:=by rw [mapAd_eq];rfl
theorem mapAd_kind (u:Un):(u.mapAd f).kind=u.kind:=by rw [mapAd_eq];rfl
theorem mapAd_rng (u:Un):(u.mapAd f).rng=u.rng:=by rw [mapAd_eq];rfl
theorem mapAd_ast (u:Un):(u.mapAd f).ast=u.ast:=by rw [mapAd_eq];rfl
theorem mapAd_ix (u:Un):(u.mapAd f).ix=u.ix:=by rw [mapAd_eq];rfl
theorem mapAd_lz (u:Un):(u.mapAd f).lz=u.lz:=by rw [mapAd_eq];rfl
theorem mapAd_subs (u:Un):(u.mapAd f).subs=u.subs.map (Un.mapAd f):=by rw [mapAd_eq];rfl
theorem shU_eq (u:Un):shU u=.mk u.kind u.rng u.ast u.ix u.lz (u.subs.map shU):=by cases u;rw [shU,shUs_map];rfl
theorem mapAd_sh:∀ u:Un,shU (u.mapAd f)=shU u:=by
 intro u
 induction u using Un.ind with
 | h u ih =>
  rw [shU_eq,shU_eq u,mapAd_kind,mapAd_rng,mapAd_ast,mapAd_ix,mapAd_lz,mapAd_subs,List.map_map]
  congr 1
  exact List.map_congr_left fun x hx=>ih x hx
theorem mapAd_all:∀ u:Un,(u.mapAd f).all.map Un.ad=(u.all.map Un.ad).map f:=by
 intro u
 induction u using Un.ind with
 | h u ih =>
  rw [all_subs,all_subs u,zzS,zzS,zzS,mapAd_ad,mapAd_subs]
  congr 1
  have:∀ l:List Un,(∀ s∈l,(s.mapAd f).all.map Un.ad=(s.all.map Un.ad).map f)→(allU (l.map (Un.mapAd f))).map Un.ad=((allU l).map Un.ad).map f:=by
   intro l
   induction l with
   | nil=>intro _;rfl
   | cons s l ihl =>
    intro h
    rw [zzS,allU,allU,zzT,zzT,zzT,h s zzH,ihl fun x hx=>h x (zzI _ hx)]
  exact this u.subs ih
end
theorem eq_of:∀ u v:Un,shU u=shU v→u.all.map Un.ad=v.all.map Un.ad→u=v:=by
 intro u
 induction u using Un.ind with
 | h u ih =>
  intro v hs ha
  have hl:∀ l:List Un,(∀ s∈l,∀ v,shU s=shU v→s.all.map Un.ad=v.all.map Un.ad→s=v)→∀ l',shUs l=shUs l'→(allU l).map Un.ad=(allU l').map Un.ad→l=l':=by
   intro l
   induction l with
   | nil =>
    intro _ l' h1 _
    cases l' with
    | nil=>rfl
    | cons x l'=>rw [shUs,shUs] at h1;cases h1
   | cons s l ihl =>
    intro h l' h1 h2
    cases l' with
    | nil=>rw [shUs,shUs] at h1;cases h1
    | cons x l' =>
     rw [shUs,shUs] at h1
     injection h1 with e1 e2
     rw [allU,allU,zzT,zzT] at h2
     have hlen:(s.all.map Un.ad).length=(x.all.map Un.ad).length:=by rw [zzP,zzP,all_len,all_len,e1]
     obtain ⟨g1,g2⟩:=List.append_inj h2 hlen
     rw [h s zzH x e1 g1,ihl (fun y hy=>h y (zzI _ hy)) l' e2 g2]
  cases u with
  | mk a k r b i z l =>
   cases v with
   | mk a' k' r' b' i' z' l' =>
    rw [shU,shU] at hs
    injection hs with e1 e2 e3 e4 e5 e6
    rw [Un.all,Un.all,zzS,zzS] at ha
    injection ha with g1 g2
    have g1':a=a':=g1
    subst e1 e2 e3 e4 e5 g1'
    rw [hl l ih l' e6 g2]
theorem map_onto:∀ {X Y:List Nat},X.Nodup→X.length=Y.length→∃ f:Nat→Nat,X.map f=Y
 | [],[],_,_=>⟨fun x=>x,rfl⟩
 | x :: X,y :: Y,hn,hl=>by
  rw [List.nodup_cons] at hn
  obtain ⟨f,hf⟩:=map_onto hn.2 (by simpa using hl)
  refine ⟨fun a=>if a=x then y else f a,?_⟩
  rw [zzS,if_pos rfl,←hf]
  congr 1
  exact List.map_congr_left fun a ha=>if_neg fun e=>hn.1 (by rw [←e];exact ha)
theorem ren_ex {u v:Un} (hs:shU u=shU v) (hu:(u.all.map Un.ad).Nodup):∃ f,u.mapAd f=v:=by
 obtain ⟨f,hf⟩:=map_onto (X:=u.all.map Un.ad) (Y:=v.all.map Un.ad) hu (by rw [zzP,zzP,all_len,all_len,hs])
 exact ⟨f,eq_of _ _ (by rw [mapAd_sh,hs]) (by rw [mapAd_all,hf])⟩
def Kt.mapAd (f:Nat→Nat):Kt→Kt
 | .top=>.top
 | .row l K=>.row (l.map (Un.mapAd f)) (K.mapAd f)
 | .grp i K=>.grp i (K.mapAd f)
 | .dec n K=>.dec (n.mapAd f) (K.mapAd f)
def Task.mapAd (f:Nat→Nat):Task→Task
 | .beg n pl nt K=>.beg (n.mapAd f) pl nt (K.mapAd f)
 | .dcd n pl nt K=>.dcd (n.mapAd f) pl nt (K.mapAd f)
 | .go K pl nt=>.go (K.mapAd f) pl nt
section
variable {t:List Int} {at_:Nat} {f:Nat→Nat} {U:List Un}
theorem rowT_map (l:List Un) (pl:Nat) (nt:List Int) (K:Kt):(rowT l pl nt K).mapAd f=rowT (l.map (Un.mapAd f)) pl nt (K.mapAd f):=by cases l <;> rfl
theorem choose_map (n:Un) (pl:Nat) (nt:List Int) (A K:Kt):(choose n pl nt A K).map (Task.mapAd f)=choose (n.mapAd f) pl nt (A.mapAd f) (K.mapAd f):=by
 unfold choose
 rw [mapAd_subs,mapAd_lz]
 cases n.subs with
 | nil=>rfl
 | cons s l=>cases n.lz <;> rfl
theorem first_map (n:Un) (pl:Nat) (nt:List Int) (K:Kt):(first t n pl nt K).map (Task.mapAd f)=first t (n.mapAd f) pl nt (K.mapAd f):=by
 unfold first
 rw [mapAd_kind,mapAd_rng,mapAd_ast,mapAd_ix,mapAd_subs]
 by_cases k1:n.kind=1
 ·rw [if_pos k1,if_pos k1];rfl
 rw [if_neg k1,if_neg k1]
 by_cases k2:n.kind=2
 ·rw [if_pos k2,if_pos k2];split <;> rfl
 rw [if_neg k2,if_neg k2]
 by_cases k3:n.kind=3
 ·rw [if_pos k3,if_pos k3];split <;> rfl
 rw [if_neg k3,if_neg k3]
 by_cases k4:n.kind=4
 ·rw [if_pos k4,if_pos k4,List.map_singleton,rowT_map]
 rw [if_neg k4,if_neg k4]
 by_cases k5:n.kind=5
 ·rw [if_pos k5,if_pos k5,List.map_map,List.map_map];rfl
 rw [if_neg k5,if_neg k5]
 by_cases k7:n.kind=7
 ·rw [if_pos k7,if_pos k7];cases n.subs <;> rfl
 rw [if_neg k7,if_neg k7]
 by_cases m1:n.kind=-1
 ·rw [if_pos m1,if_pos m1];exact choose_map n pl nt K K
 rw [if_neg m1,if_neg m1]
 by_cases m2:n.kind=-2
 ·rw [if_pos m2,if_pos m2];rfl
 rw [if_neg m2,if_neg m2]
 by_cases m3:n.kind=-3
 ·rw [if_pos m3,if_pos m3];cases n.subs <;> rfl
 rw [if_neg m3,if_neg m3];rfl
def RenS (f:Nat→Nat) (U:List Un) (s s':St):Prop:=(∀ n∈U,∀ pl b,s'.met (f n.ad,pl,b)=s.met (n.ad,pl,b))∧s'.out=s.out
theorem ren_mark {s s':St} (hf:∀ a∈U,∀ b∈U,f a.ad=f b.ad→a.ad=b.ad) (h:RenS f U s s') {n:Un} (hn:n∈U) (pl:Nat) (b:Bool):RenS f U (s.mark (n.ad,pl,b)) (s'.mark (f n.ad,pl,b)):=by
 refine ⟨fun x hx p c=>?_,h.2⟩
 unfold St.mark
 simp only [Prod.mk.injEq]
 have:=h.1 x hx p c
 by_cases e:x.ad=n.ad∧p=pl∧c=b
 ·rw [if_pos e,if_pos ⟨by rw [e.1],e.2⟩,this]
 ·rw [if_neg e,if_neg fun g=>e ⟨hf x hx n hn g.1,g.2⟩,this]
theorem ren_work {s s':St} (hf:∀ a∈U,∀ b∈U,f a.ad=f b.ad→a.ad=b.ad) (h:RenS f U s s') {k:Task} (hk:k.uses U t.length):RenS f U (work t at_ s k).1 (work t at_ s' (k.mapAd f)).1∧(work t at_ s' (k.mapAd f)).2=(work t at_ s k).2.map (Task.mapAd f):=by
 cases k with
 | beg n pl nt K =>
  refine ⟨?_,?_⟩
  ·have:=ren_mark hf h hk.1 pl false
   simpa only [work,Task.mapAd,mapAd_ad] using this
  ·simp only [work,Task.mapAd,mapAd_ad,h.1 n hk.1]
   split
   ·exact (first_map n pl nt K).symm
   ·rfl
 | dcd n pl nt K =>
  refine ⟨?_,?_⟩
  ·have:=ren_mark hf h hk.1 pl true
   simpa only [work,Task.mapAd,mapAd_ad] using this
  ·simp only [work,Task.mapAd,mapAd_ad,h.1 n hk.1]
   split
   ·exact (choose_map n pl nt (.dec n K) K).symm
   ·rfl
 | go K pl nt =>
  cases K with
  | top =>
   refine ⟨?_,rfl⟩
   simp only [work,Task.mapAd,Kt.mapAd,ended,h.2]
   split
   ·exact h
   ·exact ⟨h.1,rfl⟩
  | row l K =>
   refine ⟨h,?_⟩
   show [rowT (l.map (Un.mapAd f)) pl nt (K.mapAd f)]=[(rowT l pl nt K).mapAd f]
   rw [rowT_map]
  | grp i K=>exact ⟨h,rfl⟩
  | dec n K=>exact ⟨h,rfl⟩
mutual
theorem ren_one (hU:Closed U) (hf:∀ a∈U,∀ b∈U,f a.ad=f b.ad→a.ad=b.ad):∀ {s s1:St} {k:Task},One t at_ s k s1→k.uses U t.length→∀ {s':St},RenS f U s s'→∃ s1',One t at_ s' (k.mapAd f) s1'∧RenS f U s1 s1'
 | s,s1,k,.mk h,hk,s',hr=>by
  obtain ⟨h1,h2⟩:=ren_work (at_:=at_) hf hr hk
  obtain ⟨s1',h3,h4⟩:=ren_many hU hf h (work_uses hU hk) h1
  exact ⟨s1',.mk (by rw [h2];exact h3),h4⟩
theorem ren_many (hU:Closed U) (hf:∀ a∈U,∀ b∈U,f a.ad=f b.ad→a.ad=b.ad):∀ {s s1:St} {l:List Task},Many t at_ s l s1→(∀ k∈l,k.uses U t.length)→∀ {s':St},RenS f U s s'→∃ s1',Many t at_ s' (l.map (Task.mapAd f)) s1'∧RenS f U s1 s1'
 | s,_,[],.nil,_,s',hr=>⟨s',.nil,hr⟩
 | s,s1,k :: l,.cons h1 h2,hk,s',hr=>by
  obtain ⟨sa,g1,g2⟩:=ren_one hU hf h1 (hk k zzH) hr
  obtain ⟨sb,g3,g4⟩:=ren_many hU hf h2 (fun x hx=>hk x (zzI _ hx)) g2
  exact ⟨sb,.cons g1 g3,g4⟩
end
end
theorem same_out {t:List Int} {at_ pl:Nat} {u v:Un} (hs:shU u=shU v) (hu:(u.all.map Un.ad).Nodup) (hv:(v.all.map Un.ad).Nodup) (hcl:Closed u.all) (hpl:pl≤t.length) {nt:List Int} {a b:St} (ha:One t at_ st0 (.beg u pl nt .top) a) (hb:One t at_ st0 (.beg v pl nt .top) b):b.out=a.out:=by
 obtain ⟨f,rfl⟩:=ren_ex hs hu
 have hf:∀ a∈u.all,∀ b∈u.all,f a.ad=f b.ad→a.ad=b.ad:=fun x hx y hy e=>by
  rw [mapAd_all] at hv
  exact nodup_one hv (List.mem_map_of_mem hx) (List.mem_map_of_mem hy) e
 have hself:u∈u.all:=by rw [all_subs];exact zzH
 obtain ⟨s1,h1,h2⟩:=ren_one (U:=u.all) hcl hf ha ⟨hself,hpl,trivial⟩ (s':=st0) ⟨fun _ _ _ _=>rfl,rfl⟩
 rw [one_fun hb h1]
 exact h2.2
theorem met_mark {s:St} {m x:Mark} (h:s.met x≠0):(s.mark m).met x≠0:=by unfold St.mark;simp only [];split <;> omega
theorem met_self (s:St) (m:Mark):(s.mark m).met m≠0:=by unfold St.mark;simp
theorem met_other {s:St} {m x:Mark} (h:x≠m):(s.mark m).met x=s.met x:=by unfold St.mark;simp [h]
end Mean
end Go.Proofs.Ytkhkllpdhnmhkaa
namespace Go.Proofs.Ytkhkllpdhnmhkaa
open Mach
namespace Mean
inductive Pc where
 | b (n:Un)
 | g (i:Int)
 | d (n:Un)
def pcs:Kt→List Pc
 | .top=>[]
 | .row l K=>l.map .b++pcs K
 | .grp i K=>.g i :: pcs K
 | .dec n K=>.d n :: pcs K
inductive FTask where
 | beg (n:Un) (pl:Nat) (nt:List Int) (F:List Pc)
 | dcd (n:Un) (pl:Nat) (nt:List Int) (F:List Pc)
 | top (pl:Nat) (nt:List Int)
def goF:List Pc→Nat→List Int→FTask
 | [],pl,nt=>.top pl nt
 | .b n :: F,pl,nt=>.beg n pl nt F
 | .g i :: F,pl,nt=>goF F pl (nt.set (2*i+1).toNat pl)
 | .d n :: F,pl,nt=>.dcd n pl nt F
def frT:Task→FTask
 | .beg n pl nt K=>.beg n pl nt (pcs K)
 | .dcd n pl nt K=>.dcd n pl nt (pcs K)
 | .go K pl nt=>goF (pcs K) pl nt
def chooseF (n:Un) (pl:Nat) (nt:List Int) (again F:List Pc):List FTask :=
 match n.subs with
 | []=>[]
 | s :: _=>if n.lz then [goF F pl nt,.beg s pl nt again] else [.beg s pl nt again,goF F pl nt]
def firstF (t:List Int) (n:Un) (pl:Nat) (nt:List Int) (F:List Pc):List FTask :=
 if n.kind=1 then [goF F pl nt]
 else if n.kind=2 then (if pl < t.length∧memB n.rng (t.getD pl 0)=true then [goF F (pl+1) nt] else [])
 else if n.kind=3 then (if asB t pl n.ast then [goF F pl nt] else [])
 else if n.kind=4 then [goF (n.subs.map .b++F) pl nt]
 else if n.kind=5 then n.subs.map fun s=>.beg s pl nt F
 else if n.kind=7 then (match n.subs with | []=>[] | s :: _=>[.beg s pl (nt.set (2*n.ix).toNat pl) (.g n.ix :: F)])
 else if n.kind=-1 then chooseF n pl nt F F
 else if n.kind=-2 then [.dcd n pl nt F]
 else if n.kind=-3 then (match n.subs with | []=>[] | s :: _=>[.beg s pl nt (.d n :: F)])
 else []
section
variable (t:List Int) (at_:Nat)
def workF (s:St):FTask→St × List FTask
 | .beg n pl nt F=>(s.mark (n.ad,pl,false),if s.met (n.ad,pl,false)=0 then firstF t n pl nt F else [])
 | .dcd n pl nt F=>(s.mark (n.ad,pl,true),if s.met (n.ad,pl,true)=0 then chooseF n pl nt (.d n :: F) F else [])
 | .top pl nt=>(ended at_ s pl nt,[])
mutual
inductive OneF:St→FTask→St→Prop where
 | mk {s s':St} {k:FTask}:ManyF (workF t at_ s k).1 (workF t at_ s k).2 s'→OneF s k s'
inductive ManyF:St→List FTask→St→Prop where
 | nil {s:St}:ManyF s [] s
 | cons {s s1 s2:St} {k:FTask} {l:List FTask}:OneF s k s1→ManyF s1 l s2→ManyF s (k :: l) s2
end
end
section
variable {t:List Int} {at_:Nat}
theorem frT_rowT (l:List Un) (pl:Nat) (nt:List Int) (K:Kt):frT (rowT l pl nt K)=goF (l.map .b++pcs K) pl nt:=by cases l <;> rfl
theorem choose_fr (n:Un) (pl:Nat) (nt:List Int) (A K:Kt):(choose n pl nt A K).map frT=chooseF n pl nt (pcs A) (pcs K):=by
 unfold choose chooseF
 cases n.subs with
 | nil=>rfl
 | cons s l=>cases n.lz <;> rfl
theorem first_fr (n:Un) (pl:Nat) (nt:List Int) (K:Kt):(first t n pl nt K).map frT=firstF t n pl nt (pcs K):=by
 unfold first firstF
 by_cases k1:n.kind=1
 ·rw [if_pos k1,if_pos k1];rfl
 rw [if_neg k1,if_neg k1]
 by_cases k2:n.kind=2
 ·rw [if_pos k2,if_pos k2];split <;> rfl
 rw [if_neg k2,if_neg k2]
 by_cases k3:n.kind=3
 ·rw [if_pos k3,if_pos k3];split <;> rfl
 rw [if_neg k3,if_neg k3]
 by_cases k4:n.kind=4
 ·rw [if_pos k4,if_pos k4,zzS,List.map_nil,frT_rowT]
 rw [if_neg k4,if_neg k4]
 by_cases k5:n.kind=5
 ·rw [if_pos k5,if_pos k5,List.map_map];rfl
 rw [if_neg k5,if_neg k5]
 by_cases k7:n.kind=7
 ·rw [if_pos k7,if_pos k7];cases n.subs <;> rfl
 rw [if_neg k7,if_neg k7]
 by_cases m1:n.kind=-1
 ·rw [if_pos m1,if_pos m1];exact choose_fr n pl nt K K
 rw [if_neg m1,if_neg m1]
 by_cases m2:n.kind=-2
 ·rw [if_pos m2,if_pos m2];rfl
 rw [if_neg m2,if_neg m2]
 by_cases m3:n.kind=-3
 ·rw [if_pos m3,if_pos m3];cases n.subs <;> rfl
 rw [if_neg m3,if_neg m3];rfl
theorem manyF_one {s s1:St} {k:FTask} (h:ManyF t at_ s [k] s1):OneF t at_ s k s1:=by
 cases h with
 | cons h1 h2=>cases h2;exact h1
mutual
theorem one_f:∀ {s s1:St} {k:Task},One t at_ s k s1→OneF t at_ s (frT k) s1
 | s,s1,.beg n pl nt K,.mk h=>.mk (by
   have:=many_f h
   simp only [work] at this
   show ManyF t at_ (s.mark (n.ad,pl,false)) (if s.met (n.ad,pl,false)=0 then firstF t n pl nt (pcs K) else []) s1
   split at this
   ·rename_i h0
    rw [if_pos h0,←first_fr];exact this
   ·rename_i h0
    rw [if_neg h0];exact this)
 | s,s1,.dcd n pl nt K,.mk h=>.mk (by
   have:=many_f h
   simp only [work] at this
   show ManyF t at_ (s.mark (n.ad,pl,true)) (if s.met (n.ad,pl,true)=0 then chooseF n pl nt (.d n :: pcs K) (pcs K) else []) s1
   split at this
   ·rename_i h0
    rw [if_pos h0,show Pc.d n :: pcs K=pcs (.dec n K) from rfl,←choose_fr];exact this
   ·rename_i h0
    rw [if_neg h0];exact this)
 | s,s1,.go .top pl nt,.mk h=>.mk (many_f h)
 | s,s1,.go (.row l K) pl nt,.mk h=>by
   have:=manyF_one (many_f h)
   rw [frT_rowT] at this
   exact this
 | s,s1,.go (.grp i K) pl nt,.mk h=>manyF_one (many_f h)
 | s,s1,.go (.dec n K) pl nt,.mk h=>manyF_one (many_f h)
theorem many_f:∀ {s s1:St} {l:List Task},Many t at_ s l s1→ManyF t at_ s (l.map frT) s1
 | _,_,[],.nil=>.nil
 | _,_,_ :: _,.cons h1 h2=>.cons (one_f h1) (many_f h2)
end
mutual
theorem oneF_fun:∀ {s a b:St} {k:FTask},OneF t at_ s k a→OneF t at_ s k b→a=b
 | _,_,_,_,.mk h,.mk g=>manyF_fun h g
theorem manyF_fun:∀ {s a b:St} {l:List FTask},ManyF t at_ s l a→ManyF t at_ s l b→a=b
 | _,_,_,[],.nil,.nil=>rfl
 | _,_,_,_ :: _,.cons h1 h2,.cons g1 g2=>by
  cases oneF_fun h1 g1
  exact manyF_fun h2 g2
end
def StartedT (s:St):FTask→Prop
 | .beg n pl _ _=>s.met (n.ad,pl,false)≠0
 | .dcd n pl _ _=>s.met (n.ad,pl,true)≠0
 | .top pl _=>(s.out.any fun p=>p.1==pl)=true
theorem started_nt {s:St} {pl:Nat}:∀ (F:List Pc) (nt nt':List Int),StartedT s (goF F pl nt)→StartedT s (goF F pl nt'):=by
 intro F
 induction F with
 | nil=>exact fun _ _ h=>h
 | cons x F ih =>
  cases x with
  | b n=>exact fun _ _ h=>h
  | g i=>exact fun _ _ h=>ih _ _ h
  | d n=>exact fun _ _ h=>h
theorem ended_met (s:St) (pl:Nat) (nt:List Int) (m:Mark):(ended at_ s pl nt).met m=s.met m:=by unfold ended;split <;> rfl
theorem started_work (s:St) (k:FTask):StartedT (workF t at_ s k).1 k:=by
 cases k with
 | beg n pl nt F=>exact met_self _ _
 | dcd n pl nt F=>exact met_self _ _
 | top pl nt =>
  show ((ended at_ s pl nt).out.any fun p=>p.1==pl)=true
  unfold ended
  split
  ·assumption
  ·rw [List.any_append];simp
theorem started_grows {s:St} {k:FTask} (x:FTask) (h:StartedT s k):StartedT (workF t at_ s x).1 k:=by
 have hm:∀ m,s.met m≠0→(workF t at_ s x).1.met m≠0:=fun m h=>by
  cases x with
  | beg n pl nt F=>exact met_mark h
  | dcd n pl nt F=>exact met_mark h
  | top pl nt=>rw [show (workF t at_ s (.top pl nt)).1=ended at_ s pl nt from rfl,ended_met];exact h
 have ho:∀ pl,(s.out.any fun p=>p.1==pl)=true→((workF t at_ s x).1.out.any fun p=>p.1==pl)=true:=fun q h=>by
  cases x with
  | beg n pl nt F=>exact h
  | dcd n pl nt F=>exact h
  | top pl nt =>
   show ((ended at_ s pl nt).out.any fun p=>p.1==q)=true
   unfold ended
   split
   ·exact h
   ·rw [List.any_append,h];rfl
 cases k with
 | beg n pl nt F=>exact hm _ h
 | dcd n pl nt F=>exact hm _ h
 | top pl nt=>exact ho _ h
theorem skipF {s:St} {k:FTask} (h:StartedT s k):∃ s1,OneF t at_ s k s1∧(∀ m,s.met m=0 ↔ s1.met m=0)∧s.out=s1.out∧∀ x,StartedT s x→StartedT s1 x:=by
 have hk:(workF t at_ s k).2=[]:=by
  cases k with
  | beg n pl nt F=>exact if_neg h
  | dcd n pl nt F=>exact if_neg h
  | top pl nt=>rfl
 have hmk:∀ m,s.met m≠0→∀ x,s.met x=0 ↔ (s.mark m).met x=0:=fun m hm x=>by
  by_cases e:x=m
  ·rw [e];exact ⟨fun g=>absurd g hm,fun g=>absurd g (met_self s m)⟩
  ·rw [met_other e]
 refine ⟨(workF t at_ s k).1,.mk (by rw [hk];exact .nil),?_,?_,fun x hx=>started_grows k hx⟩
 ·cases k with
  | beg n pl nt F=>exact hmk _ h
  | dcd n pl nt F=>exact hmk _ h
  | top pl nt=>intro m;rw [show (workF t at_ s (.top pl nt)).1=ended at_ s pl nt from rfl,ended_met]
 ·cases k with
  | beg n pl nt F=>rfl
  | dcd n pl nt F=>rfl
  | top pl nt =>
   show s.out=(ended at_ s pl nt).out
   unfold ended
   rw [if_pos (show (s.out.any fun p=>p.1==pl)=true from h)]
end
end Mean
end Go.Proofs.Ytkhkllpdhnmhkaa
namespace Go.Proofs.Ytkhkllpdhnmhkaa
open Tr
theorem node_ix {k:Int} {r:List (Int × Int)} {a n m:Int} {z:Bool} {i:Int} {s:ByteArray} {q:Nat} (h:nodeF k r a q n m z i s=true):0≤i∧i≤500:=by
 have hz:∀ (r:List (Int × Int)) (a n m:Int) (z:Bool) (i:Int) (s:ByteArray),zeroB r a n m z i s=true→i=0:=fun r a n m z i s h=>by
  unfold zeroB at h
  simp only [zzc,beq_iff_eq] at h
  exact h.2.2.2.2.2.1
 unfold nodeF at h
 by_cases k1:k=1
 ·rw [if_pos k1,zzc] at h;have:=hz _ _ _ _ _ _ _ h.1;omega
 rw [if_neg k1] at h
 by_cases k2:k=2
 ·rw [if_pos k2,zzc] at h;have:=hz _ _ _ _ _ _ _ h.1;omega
 rw [if_neg k2] at h
 by_cases k3:k=3
 ·rw [if_pos k3,zzc] at h;have:=hz _ _ _ _ _ _ _ h.1;omega
 rw [if_neg k3] at h
 by_cases k4:k=4
 ·rw [if_pos k4,zzc] at h;have:=hz _ _ _ _ _ _ _ h.1;omega
 rw [if_neg k4] at h
 by_cases k5:k=5
 ·rw [if_pos k5,zzc] at h;have:=hz _ _ _ _ _ _ _ h.1;omega
 rw [if_neg k5] at h
 by_cases k6:k=6
 ·rw [if_pos k6,zzc] at h;have:=hz _ _ _ _ _ _ _ h.1;omega
 rw [if_neg k6] at h
 by_cases k7:k=7
 ·rw [if_pos k7] at h
  simp only [zzc,beq_iff_eq,decide_eq_true_eq] at h
  omega
 ·rw [if_neg k7] at h;cases h
mutual
theorem grt_bd:∀ t:Tr.Tr,allB t=true→0≤greatest t∧greatest t≤500
 | .mk k r a l n m z i s,h=>by
  obtain ⟨hnb,hsub⟩:=(allB_iff _).1 h
  have hi:=node_ix hnb
  rw [greatest]
  exact ⟨Int.le_trans hi.1 (greatests_ge l i).1,greatests_le l i 500 hi.2 fun t ht=>(grts_bd l hsub t ht).2⟩
theorem grts_bd:∀ l:List Tr.Tr,(∀ u∈l,allB u=true)→∀ u∈l,0≤greatest u∧greatest u≤500
 | [],_=>fun u hu=>by cases hu
 | t :: l,h=>fun u hu=>by
  rcases zzN.1 hu with e | hu
  ·rw [e];exact grt_bd t (h t zzH)
  ·exact grts_bd l (fun v hv=>h v (zzI _ hv)) u hu
end
end Go.Proofs.Ytkhkllpdhnmhkaa
