/- simplify.simple's closure build: the simple form of every tree that may be and whose form is not too great. -/
import Derived.Test.YtkhkllpdhnmhkaaP36
import Derived.Test.YtkhkllpdhnmhkaaP37
import Derived.Test.YtkhkllpdhnmhkaaP38
namespace Go.Proofs.Ytkhkllpdhnmhkaa
open Go.RowKit Tr
theorem sizes_row (l:List Tr.Tr):sizes l≤size (row l):=by
 match l with
 | []=>simp [sizes]
 | [x]=>simp [sizes,row]
 | x :: y :: l=>rw [show row (x :: y :: l)=catT (x :: y :: l) from rfl,catT,size];omega
theorem size_eq (t:Tr.Tr):size t=sizes t.subs+1:=by cases t with | mk k r a l n m z i s=>rw [size];rfl
theorem sizes_ap (a b:List Tr.Tr):sizes (a++b)=sizes a+sizes b:=by
 induction a with
 | nil=>simp [sizes]
 | cons x a ih=>rw [List.cons_append,sizes,sizes,ih];omega
theorem le_row {y:Tr.Tr} (h:allB y=true) (a b:List Tr.Tr):size y≤size (row (a++putT y++b)):=by
 by_cases k1:y.kind=1
 ·have h1:size y=1:=by
   cases kinds h with
   | empty=>rfl
   | cls r hr=>simp [Tr.kind] at k1
   | ass q hq=>simp [Tr.kind] at k1
   | cat l hc hs=>simp [catT,Tr.kind] at k1
   | alt l hc hs=>simp [altT,Tr.kind] at k1
   | rep x n m z hx h0 hb hm=>simp [repT,Tr.kind] at k1
   | group x i s hx h0 hb hm=>simp [groupT,Tr.kind] at k1
  rw [h1];exact size_pos _
 ·by_cases k4:y.kind=4
  ·have hp:putT y=y.subs:=by unfold putT;rw [if_neg k1,if_pos k4]
   have h2:=subs_pos h k4
   rw [hp]
   have hlen:2≤(a++y.subs++b).length:=by simp;omega
   have hrow:row (a++y.subs++b)=catT (a++y.subs++b):=by
    match hq:a++y.subs++b with
    | []=>rw [hq] at hlen;simp at hlen
    | [x]=>rw [hq] at hlen;simp at hlen
    | x :: z :: l=>rfl
   have h3:size (catT (a++y.subs++b))=sizes (a++y.subs++b)+1:=by rw [catT,size]
   rw [hrow,h3,sizes_ap,sizes_ap,size_eq y]
   omega
  ·have hp:putT y=[y]:=by unfold putT;rw [if_neg k1,if_neg k4]
   have h3:=sizes_row (a++putT y++b)
   rw [sizes_ap,sizes_ap,hp] at h3
   rw [hp]
   simp only [sizes] at h3
   omega
theorem le_alt (y:Tr.Tr) (a b:List Tr.Tr):size y≤size (altT (a++altPut y++b)):=by
 have h3:size (altT (a++altPut y++b))=sizes (a++altPut y++b)+1:=by rw [altT,size]
 rw [h3,sizes_ap,sizes_ap]
 unfold altPut
 by_cases k5:y.kind=5
 ·rw [if_pos k5,size_eq y];omega
 ·rw [if_neg k5];simp only [sizes];omega
theorem size_rep (s:Tr.Tr) (mn mx:Int) (z:Bool):size (repT s mn mx z)=size s+1:=by rw [repT,size];simp [sizes]
theorem putT_rep (s:Tr.Tr) (mn mx:Int) (z:Bool):putT (repT s mn mx z)=[repT s mn mx z]:=by simp [putT,repT,Tr.kind]
theorem le_unf {y:Tr.Tr} (h:allB y=true) {mn mx:Int} (z:Bool) (h0:0≤mn) (hm:(mx==0)=false) (hx:mx=-1∨mn≤mx):size y≤size (unfoldS y mn mx z):=by
 have hm0:mx≠0:=by simpa using hm
 unfold unfoldS
 by_cases c1:mx < 0∧mn=0
 ·rw [if_pos c1,size_rep];omega
 ·rw [if_neg c1]
  by_cases c2:mx < 0
  ·rw [if_pos c2,putT_rep]
   have h3:=sizes_row ((List.replicate (mn - 1).toNat (putT y)).flatten++[repT y 1 (-1) z])
   rw [sizes_ap] at h3
   simp only [sizes,size_rep] at h3
   omega
  ·rw [if_neg c2]
   by_cases c3:mn=0
   ·obtain ⟨n,hn⟩:∃ n,(mx - mn).toNat=n+1:=⟨(mx - mn).toNat - 1,by omega⟩
    rw [hn,optS,putT_rep]
    have h3:=sizes_row ((List.replicate mn.toNat (putT y)).flatten++[repT (row (putT y++putT (optS y z n))) 0 1 z])
    rw [sizes_ap] at h3
    simp only [sizes,size_rep] at h3
    have h4:=le_row h [] (putT (optS y z n))
    rw [List.nil_append] at h4
    omega
   ·obtain ⟨n,hn⟩:∃ n,mn.toNat=n+1:=⟨mn.toNat - 1,by omega⟩
    have h4:=le_row h (repsT (putT y) n) (putT (optS y z (mx - mn).toNat))
    rw [←reps_succ,←hn] at h4
    exact h4
theorem le_puts {l:List Tr.Tr} (hal:∀ u∈l,allB u=true) {u:Tr.Tr} (hu:u∈l):size (simpleS u)≤size (row (putsT l)):=by
 obtain ⟨a,b,rfl⟩:=List.append_of_mem hu
 have e:putsT (a++u :: b)=putsT a++putT (simpleS u)++putsT b:=by
  rw [show a++u :: b=a++[u]++b from by simp,putsT_append,putsT_append,putsT_one]
 rw [e]
 exact le_row (simple_good u (hal u hu)).1 _ _
theorem le_alts {l:List Tr.Tr} {u:Tr.Tr} (hu:u∈l):size (simpleS u)≤size (altT (altsT l)):=by
 obtain ⟨a,b,rfl⟩:=List.append_of_mem hu
 have e:altsT (a++u :: b)=altsT a++altPut (simpleS u)++altsT b:=by
  rw [show a++u :: b=a++[u]++b from by simp,altsT_append,altsT_append,altsT_one]
 rw [e]
 exact le_alt _ _ _
theorem alts_len (l:List Tr.Tr):(altsT l).length≤size (altT (altsT l)):=by
 have h3:size (altT (altsT l))=sizes (altsT l)+1:=by rw [altT,size]
 have:=len_sizes (altsT l)
 omega
theorem build_any:∀ t:Ta,BD t:=by
 intro t
 induction t using Ta.ind with
 | h t ih =>
  cases t with
  | mk k r ra rc ast l sa sc mn mx z ix nm =>
  intro S w bc ec h hS hcel hal0 hsz0
  have hal:∀ u∈l,allB u.tr=true:=fun u hu=>((allB_iff _).1 hal0).2 u.tr (by rw [Ta.tr_subs];exact List.mem_map_of_mem hu)
  have hih:∀ u∈l,BD u:=fun u hu=>ih u hu
  have hmem:∀ u∈l,u.tr∈trs l:=fun u hu=>by rw [trs_map];exact List.mem_map_of_mem hu
  have halt:∀ u∈trs l,allB u=true:=fun u hu=>by rw [trs_map] at hu;obtain ⟨x,hx,rfl⟩:=List.mem_map.1 hu;exact hal x hx
  have hlen:=trs_length l
  simp only [Ta.tr] at hal0
  have htr:(Ta.mk k r ra rc ast l sa sc mn mx z ix nm).tr=.mk k r ast (trs l) mn mx z ix nm:=by rw [Ta.tr]
  rw [htr] at hsz0 ⊢
  clear ih
  rw [simpleS,simplesS_map] at hsz0 ⊢
  by_cases k7:k=7
  ·rw [if_pos k7] at hsz0 ⊢
   have hl1:l.length=1:=by
    subst k7
    generalize trs l=L at *
    cases kinds hal0 with
    | group x i s hx h0 hb hm=>simpa using hlen.symm
   have hsz:∀ u∈l,size (simpleS u.tr)≤200000:=fun u hu=>by
    match l,hl1,hu with
    | [x],_,hu =>
     simp at hu;subst hu
     simp only [trs,zzS,List.headD_cons] at hsz0
     rw [groupT,size] at hsz0
     simp only [sizes] at hsz0
     omega
   exact bd_group k r ra rc ast l sa sc mn mx z ix nm S w bc ec h hS hcel (by simpa using k7) hl1 hih hal hsz
  ·rw [if_neg k7] at hsz0 ⊢
   have k7':(k==7)=false:=by simpa using k7
   by_cases k4:k=4
   ·rw [if_pos k4] at hsz0 ⊢
    have hsz:∀ u∈l,size (simpleS u.tr)≤200000:=fun u hu=>zzU (le_puts halt (hmem u hu)) hsz0
    exact bd_cat k r ra rc ast l sa sc mn mx z ix nm S w bc ec h hS hcel k7' (by simpa using k4) hih hal hsz (zzU (row_len (putsT (trs l))) hsz0)
   ·rw [if_neg k4] at hsz0 ⊢
    have k4':(k==4)=false:=by simpa using k4
    by_cases k5:k=5
    ·rw [if_pos k5] at hsz0 ⊢
     have hsz:∀ u∈l,size (simpleS u.tr)≤200000:=fun u hu=>zzU (le_alts (hmem u hu)) hsz0
     exact bd_alt k r ra rc ast l sa sc mn mx z ix nm S w bc ec h hS hcel k7' k4' (by simpa using k5) hih hal hsz (zzU (alts_len (trs l)) hsz0)
    ·rw [if_neg k5] at hsz0 ⊢
     have k5':(k==5)=false:=by simpa using k5
     by_cases k6:k=6
     ·rw [if_pos k6] at hsz0 ⊢
      have hrep:l.length=1∧0≤mn∧mn≤1000∧(mx=-1∨(mn≤mx∧mx≤1000)):=by
       subst k6
       generalize trs l=L at *
       cases kinds hal0 with
       | rep x n m z hx h0 hb hm=>exact ⟨by simpa using hlen.symm,h0,hb,hm⟩
      obtain ⟨hl1,h0,h1,hx⟩:=hrep
      by_cases hm:mx=0
      ·rw [if_pos hm]
       exact bd_zero k r ra rc ast l sa sc mn mx z ix nm S w bc ec h hS hcel k7' k4' k5' (by simpa using k6) (by simpa using hm)
      ·rw [if_neg hm] at hsz0 ⊢
       have hsz:∀ u∈l,size (simpleS u.tr)≤200000:=fun u hu=>by
        match l,hl1,hu with
        | [x],_,hu =>
         simp at hu;subst hu
         simp only [trs,zzS,List.headD_cons] at hsz0
         exact zzU (le_unf (simple_good _ (hal u (by simp))).1 z h0 (by simpa using hm) (by omega)) hsz0
       exact bd_rep k r ra rc ast l sa sc mn mx z ix nm S w bc ec h hS hcel k7' k4' k5' (by simpa using k6) (by simpa using hm) hl1 h0 h1 (by omega) hih hal hsz hsz0
     ·rw [if_neg k6]
      have:=bd_leaf k r ra rc ast l sa sc mn mx z ix nm S w bc ec h hS hcel k7' k4' k5' (by simpa using k6)
      rw [htr] at this
      exact this
end Go.Proofs.Ytkhkllpdhnmhkaa
namespace Go.Proofs.Ytkhkllpdhnmhkaa
open Go.RowKit Tr
set_option maxRecDepth 100000 in
set_option maxHeartbeats 2000000 in
theorem simple_any (t:Ta) (S:Nat→Prop) (w:World) (h:RT w S t) (hS:∀ b,S b→b < w.heap.size) (hal:allB t.tr=true) (hsz:size (simpleS t.tr)≤200000) :
  Calls Try.prog 32 #[t.val] w fun e w'=>∃ u:Ta,e=.returned u.val∧u.tr=simpleS t.tr∧RT w' (Fr w.heap.size [] w') u∧Below w.heap.size w w':=by
 obtain ⟨st,hst⟩:∃ q,q=simpleS t.tr:=⟨_,rfl⟩
 cases t with
 | mk k r ra rc ast l sa sc mn mx z ix nm =>
 have e2:((w.alloc (.cells #[.int .i64 k,.slice ra r.length rc,.int .i64 ast,.slice sa l.length sc,.int .i64 mn,.int .i64 mx,.bool z,.int .i64 ix,.string nm] 25)).alloc (.cells #[.int .i64 0,.slice none 0 0,.int .i64 0,.slice none 0 0,.int .i64 0,.int .i64 0,.bool false,.int .i64 0,.string ⟨#[]⟩] 25)).heap.size=w.heap.size+1+1:=by simp
 have hcs2:CS w [.int .i64 k,.slice ra r.length rc,.int .i64 ast,.slice sa l.length sc,.int .i64 mn,.int .i64 mx,.bool z,.int .i64 ix,.string nm] ((w.alloc (.cells #[.int .i64 k,.slice ra r.length rc,.int .i64 ast,.slice sa l.length sc,.int .i64 mn,.int .i64 mx,.bool z,.int .i64 ix,.string nm] 25)).alloc (.cells #[.int .i64 0,.slice none 0 0,.int .i64 0,.slice none 0 0,.int .i64 0,.int .i64 0,.bool false,.int .i64 0,.string ⟨#[]⟩] 25)):=⟨two_below w _ _,(Blk.new w 25 [.int .i64 k,.slice ra r.length rc,.int .i64 ast,.slice sa l.length sc,.int .i64 mn,.int .i64 mx,.bool z,.int .i64 ix,.string nm]).alloc _,two_blk w _ 25 [.int .i64 0,.slice none 0 0,.int .i64 0,.slice none 0 0,.int .i64 0,.int .i64 0,.bool false,.int .i64 0,.string ⟨#[]⟩]⟩
 have hb4:Below ((w.alloc (.cells #[.int .i64 k,.slice ra r.length rc,.int .i64 ast,.slice sa l.length sc,.int .i64 mn,.int .i64 mx,.bool z,.int .i64 ix,.string nm] 25)).alloc (.cells #[.int .i64 0,.slice none 0 0,.int .i64 0,.slice none 0 0,.int .i64 0,.int .i64 0,.bool false,.int .i64 0,.string ⟨#[]⟩] 25)).heap.size ((w.alloc (.cells #[.int .i64 k,.slice ra r.length rc,.int .i64 ast,.slice sa l.length sc,.int .i64 mn,.int .i64 mx,.bool z,.int .i64 ix,.string nm] 25)).alloc (.cells #[.int .i64 0,.slice none 0 0,.int .i64 0,.slice none 0 0,.int .i64 0,.int .i64 0,.bool false,.int .i64 0,.string ⟨#[]⟩] 25)) ((((w.alloc (.cells #[.int .i64 k,.slice ra r.length rc,.int .i64 ast,.slice sa l.length sc,.int .i64 mn,.int .i64 mx,.bool z,.int .i64 ix,.string nm] 25)).alloc (.cells #[.int .i64 0,.slice none 0 0,.int .i64 0,.slice none 0 0,.int .i64 0,.int .i64 0,.bool false,.int .i64 0,.string ⟨#[]⟩] 25)).alloc (.cells #[(.func (Fn.func 55) #[] #[.pointer (some ⟨w.heap.size+1+1,0,none⟩),.pointer (some ⟨w.heap.size+1+1+1,0,none⟩)])] 80)).alloc (.cells #[(.func (Fn.func 54) #[] #[.pointer (some ⟨w.heap.size+1+1,0,none⟩)])] 106)):=((zzb _ _).alloc (zzF _) _).alloc (by simp) _
 have hcs:=hcs2.bel hb4
 have hcel:CEL (w.heap.size+1+1) (w.heap.size+1+1+1) ((((w.alloc (.cells #[.int .i64 k,.slice ra r.length rc,.int .i64 ast,.slice sa l.length sc,.int .i64 mn,.int .i64 mx,.bool z,.int .i64 ix,.string nm] 25)).alloc (.cells #[.int .i64 0,.slice none 0 0,.int .i64 0,.slice none 0 0,.int .i64 0,.int .i64 0,.bool false,.int .i64 0,.string ⟨#[]⟩] 25)).alloc (.cells #[(.func (Fn.func 55) #[] #[.pointer (some ⟨w.heap.size+1+1,0,none⟩),.pointer (some ⟨w.heap.size+1+1+1,0,none⟩)])] 80)).alloc (.cells #[(.func (Fn.func 54) #[] #[.pointer (some ⟨w.heap.size+1+1,0,none⟩)])] 106)):=by
  have h1:=Blk.new ((w.alloc (.cells #[.int .i64 k,.slice ra r.length rc,.int .i64 ast,.slice sa l.length sc,.int .i64 mn,.int .i64 mx,.bool z,.int .i64 ix,.string nm] 25)).alloc (.cells #[.int .i64 0,.slice none 0 0,.int .i64 0,.slice none 0 0,.int .i64 0,.int .i64 0,.bool false,.int .i64 0,.string ⟨#[]⟩] 25)) 80 [(.func (Fn.func 55) #[] #[.pointer (some ⟨w.heap.size+1+1,0,none⟩),.pointer (some ⟨w.heap.size+1+1+1,0,none⟩)])]
  rw [e2] at h1
  have h2:=Blk.new (((w.alloc (.cells #[.int .i64 k,.slice ra r.length rc,.int .i64 ast,.slice sa l.length sc,.int .i64 mn,.int .i64 mx,.bool z,.int .i64 ix,.string nm] 25)).alloc (.cells #[.int .i64 0,.slice none 0 0,.int .i64 0,.slice none 0 0,.int .i64 0,.int .i64 0,.bool false,.int .i64 0,.string ⟨#[]⟩] 25)).alloc (.cells #[(.func (Fn.func 55) #[] #[.pointer (some ⟨w.heap.size+1+1,0,none⟩),.pointer (some ⟨w.heap.size+1+1+1,0,none⟩)])] 80)) 106 [(.func (Fn.func 54) #[] #[.pointer (some ⟨w.heap.size+1+1,0,none⟩)])]
  have e3:(((w.alloc (.cells #[.int .i64 k,.slice ra r.length rc,.int .i64 ast,.slice sa l.length sc,.int .i64 mn,.int .i64 mx,.bool z,.int .i64 ix,.string nm] 25)).alloc (.cells #[.int .i64 0,.slice none 0 0,.int .i64 0,.slice none 0 0,.int .i64 0,.int .i64 0,.bool false,.int .i64 0,.string ⟨#[]⟩] 25)).alloc (.cells #[(.func (Fn.func 55) #[] #[.pointer (some ⟨w.heap.size+1+1,0,none⟩),.pointer (some ⟨w.heap.size+1+1+1,0,none⟩)])] 80)).heap.size=w.heap.size+1+1+1:=by simp
  rw [e3] at h2
  exact ⟨(h1.alloc _).cell 0,h2.cell 0⟩
 have HIN:=zzA (build_any (Ta.mk k r ra rc ast l sa sc mn mx z ix nm) S ((((w.alloc (.cells #[.int .i64 k,.slice ra r.length rc,.int .i64 ast,.slice sa l.length sc,.int .i64 mn,.int .i64 mx,.bool z,.int .i64 ix,.string nm] 25)).alloc (.cells #[.int .i64 0,.slice none 0 0,.int .i64 0,.slice none 0 0,.int .i64 0,.int .i64 0,.bool false,.int .i64 0,.string ⟨#[]⟩] 25)).alloc (.cells #[(.func (Fn.func 55) #[] #[.pointer (some ⟨w.heap.size+1+1,0,none⟩),.pointer (some ⟨w.heap.size+1+1+1,0,none⟩)])] 80)).alloc (.cells #[(.func (Fn.func 54) #[] #[.pointer (some ⟨w.heap.size+1+1,0,none⟩)])] 106)) _ _ (h.below hS hcs.below) (fun b hb=>zzQ (hS b hb) hcs.below.size) hcel hal hsz)
 rw [←hst] at HIN ⊢
 have HCS:=zzA hcs
 clear h hS hcs hcs2 hb4 hcel hal hsz hst e2
 simp only [Ta.val,Ta.vals] at HIN ⊢
 go_enter Try.func32,Try.ntmps32
 go_wp2_with fail
 generalize ((((w.alloc (.cells #[.int .i64 k,.slice ra r.length rc,.int .i64 ast,.slice sa l.length sc,.int .i64 mn,.int .i64 mx,.bool z,.int .i64 ix,.string nm] 25)).alloc (.cells #[.int .i64 0,.slice none 0 0,.int .i64 0,.slice none 0 0,.int .i64 0,.int .i64 0,.bool false,.int .i64 0,.string ⟨#[]⟩] 25)).alloc (.cells #[(.func (Fn.func 55) #[] #[.pointer (some ⟨w.heap.size+1+1,0,none⟩),.pointer (some ⟨w.heap.size+1+1+1,0,none⟩)])] 80)).alloc (.cells #[(.func (Fn.func 54) #[] #[.pointer (some ⟨w.heap.size+1+1,0,none⟩)])] 106))=w2 at *
 refine HIN.out.mono ?_
 rintro e w5 ⟨u5,rfl,htr5,hrt5,hb5⟩
 have HC5:=zzA (HCS.out.bel hb5)
 have HRT5:=zzA (hrt5.fr_in (B:=w.heap.size) (L:=[w.heap.size+1]) (by have:=HCS.out.below.size;omega) (by intro x hx;simp at hx;have:=HCS.out.res.lt;omega))
 have HTR5:=zzA htr5
 clear htr5 hrt5 hb5 HIN
 obtain ⟨k2,r2,ra2,rc2,a2,l2,sa2,sc2,n2,m2,z2,i2,s2⟩:=u5
 obtain ⟨q0,q1,q2,q3,q4,q5,q6,q7,q8⟩:=bc9 (HC5.out.res)
 have fz0:=HC5.out.res.frozen 0
 have fz1:=HC5.out.res.frozen 1
 have fz2:=HC5.out.res.frozen 2
 have fz3:=HC5.out.res.frozen 3
 have fz4:=HC5.out.res.frozen 4
 have fz5:=HC5.out.res.frozen 5
 have fz6:=HC5.out.res.frozen 6
 have fz7:=HC5.out.res.frozen 7
 have fz8:=HC5.out.res.frozen 8
 have fz9:=HC5.out.res.lt
 simp only []
 go_wp2_with fail
 refine bodyPost_ret (node_ret rfl _ _ (w.heap.size+1) (Ta.mk k2 r2 ra2 rc2 a2 l2 sa2 sc2 n2 m2 z2 i2 s2) rfl (show Blk (((((((((w5.setCell ⟨w.heap.size+1,0,none⟩ (.int .i64 k2)).setCell ⟨w.heap.size+1,1,none⟩ (.slice ra2 r2.length rc2)).setCell ⟨w.heap.size+1,2,none⟩ (.int .i64 a2)).setCell ⟨w.heap.size+1,3,none⟩ (.slice sa2 l2.length sc2)).setCell ⟨w.heap.size+1,4,none⟩ (.int .i64 n2)).setCell ⟨w.heap.size+1,5,none⟩ (.int .i64 m2)).setCell ⟨w.heap.size+1,6,none⟩ (.bool z2)).setCell ⟨w.heap.size+1,7,none⟩ (.int .i64 i2)).setCell ⟨w.heap.size+1,8,none⟩ (.string s2)) (w.heap.size+1) 25 (Ta.mk k2 r2 ra2 rc2 a2 l2 sa2 sc2 n2 m2 z2 i2 s2).vals from (((((((((HC5.out.res.set_ 0 (.int .i64 k2)).set_ 1 (.slice ra2 r2.length rc2)).set_ 2 (.int .i64 a2)).set_ 3 (.slice sa2 l2.length sc2)).set_ 4 (.int .i64 n2)).set_ 5 (.int .i64 m2)).set_ 6 (.bool z2)).set_ 7 (.int .i64 i2)).set_ 8 (.string s2)))) rfl ?_
 refine ⟨Ta.mk k2 r2 ra2 rc2 a2 l2 sa2 sc2 n2 m2 z2 i2 s2,rfl,HTR5.out,(HRT5.out).fr_kept (kept9 w5 (w.heap.size+1) 0 (.int .i64 k2) (.slice ra2 r2.length rc2) (.int .i64 a2) (.slice sa2 l2.length sc2) (.int .i64 n2) (.int .i64 m2) (.bool z2) (.int .i64 i2) (.string s2)) (by simp) (by simp),Below.kept HC5.out.below (kept9 w5 (w.heap.size+1) 0 (.int .i64 k2) (.slice ra2 r2.length rc2) (.int .i64 a2) (.slice sa2 l2.length sc2) (.int .i64 n2) (.int .i64 m2) (.bool z2) (.int .i64 i2) (.string s2)) (by intro b hb;simp at hb;omega) HC5.out.below.size⟩
end Go.Proofs.Ytkhkllpdhnmhkaa
