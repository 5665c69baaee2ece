/- prog's maker: a tree is laid down. -/
import Derived.StillTailTactics
import Derived.Test.YtgkclnmmjedmkaaGreatP41
import Derived.Test.YtgkclnmmjedmkaaGreatP43
import Derived.Test.YtgkclnmmjedmkaaGreatP44
set_option maxRecDepth 100000
set_option maxHeartbeats 1000000
namespace Go.Proofs.YtgkclnmmjedmkaaGreat
open Go.RowKit Mach Tr
variable {X:List Nat}
def howF (k:Int):FuncId:=if k=2 then 77 else if k=3 then 78 else if k=7 then 79 else if k=5 then 80 else if k=6 then 81 else 82
theorem howF_six (k:Int):howF k=77∨howF k=78∨howF k=79∨howF k=80∨howF k=81∨howF k=82:=by
 unfold howF
 split
 ·exact .inl rfl
 split
 ·exact .inr (.inl rfl)
 split
 ·exact .inr (.inr (.inl rfl))
 split
 ·exact .inr (.inr (.inr (.inl rfl)))
 split
 ·exact .inr (.inr (.inr (.inr (.inl rfl))))
 ·exact .inr (.inr (.inr (.inr (.inr rfl))))
theorem how_any (p:Value) (k:Int) (w:World):Calls Tryz.prog 45 #[p,.int .i64 k] w fun e w'=>e=.returned (.func (Fn.func (howF k)) #[p] #[])∧w'=w:=by
 have hmf:∀ (fn:Fn) (first cap:Array Value) (w:World),(Instr.makeFunc fn first cap).run Tryz.prog w=.ok (.func fn first cap) w:=fun _ _ _ _=>rfl
 unfold howF
 by_cases k2:k=2
 ·subst k2
  go_enter Tryz.func45,Tryz.ntmps45
  go_wp2_with fail
  go_ret
  exact ⟨rfl,rfl⟩
 have b2:(k==2)=false:=by simpa using k2
 by_cases k3:k=3
 ·subst k3
  go_enter Tryz.func45,Tryz.ntmps45
  go_wp2_with fail
  go_ret
  exact ⟨rfl,rfl⟩
 have b3:(k==3)=false:=by simpa using k3
 by_cases k7:k=7
 ·subst k7
  go_enter Tryz.func45,Tryz.ntmps45
  go_wp2_with fail
  go_ret
  exact ⟨rfl,rfl⟩
 have b7:(k==7)=false:=by simpa using k7
 by_cases k5:k=5
 ·subst k5
  go_enter Tryz.func45,Tryz.ntmps45
  go_wp2_with fail
  go_ret
  exact ⟨rfl,rfl⟩
 have b5:(k==5)=false:=by simpa using k5
 by_cases k6:k=6
 ·subst k6
  go_enter Tryz.func45,Tryz.ntmps45
  go_wp2_with fail
  go_ret
  exact ⟨rfl,rfl⟩
 have b6:(k==6)=false:=by simpa using k6
 rw [if_neg k2,if_neg k3,if_neg k7,if_neg k5,if_neg k6]
 go_enter Tryz.func45,Tryz.ntmps45
 go_wp2_with fail
 go_ret
 exact ⟨rfl,rfl⟩
theorem lay_at (k:Int) (r:List (Int × Int)) (ra:Option Addr) (rc:Nat) (ast:Int) (l:List Ta) (sa:Option Addr) (sc:Nat) (mn mx:Int) (z:Bool) (ix:Int) (nm:ByteArray) (w:World) (rb:Nat) (v:Value) (L:List InV) (n:Nat) (c:List Ins) (hr:RowI X rb 57 v L w)
  (hF:∀ W,Below w.heap.size w W→Calls Tryz.prog (howF k) #[(.pointer (some ⟨rb,0,none⟩)),(Ta.mk k r ra rc ast l sa sc mn mx z ix nm).val] W fun e w'=>e=.returned (.tuple #[])∧∃ v' L',LP X rb v W L n c v' L' w') :
  Calls Tryz.prog 20 #[(.pointer (some ⟨rb,0,none⟩)),(Ta.mk k r ra rc ast l sa sc mn mx z ix nm).val] w fun e w'=>e=.returned (.tuple #[])∧∃ v' L',LP X rb v w L n c v' L' w':=by
 have hb0:Below w.heap.size w (w.alloc (.cells #[.int .i64 k,.slice ra r.length rc,.int .i64 ast,.slice sa l.length sc,.int .i64 mn,.int .i64 mx,.bool z,.int .i64 ix,.string nm] 25)):=(zzb _ _).alloc (zzF _) _
 have hl0:=LP.refl hr hb0
 have HX:=zzA (hr.new (ty2:=25) [.int .i64 k,.slice ra r.length rc,.int .i64 ast,.slice sa l.length sc,.int .i64 mn,.int .i64 mx,.bool z,.int .i64 ix,.string nm])
 have HFU:=zzA (full_any rb v L (w.alloc (.cells #[.int .i64 k,.slice ra r.length rc,.int .i64 ast,.slice sa l.length sc,.int .i64 mn,.int .i64 mx,.bool z,.int .i64 ix,.string nm] 25)) hl0.row)
 have HF:=zzA (hF (w.alloc (.cells #[.int .i64 k,.slice ra r.length rc,.int .i64 ast,.slice sa l.length sc,.int .i64 mn,.int .i64 mx,.bool z,.int .i64 ix,.string nm] 25)).drew (bdrewN hb0 1))
 have HL:=zzA hl0
 have HW:=zzA (LP.refl hr (bdrewN hb0 1))
 clear hb0 hl0 hr hF
 simp only [Ta.val,Ta.vals] at HF
 simp only [Ta.val,Ta.vals]
 obtain ⟨d0,d1,d2,d3,d4,d5,d6,d7,d8⟩:=bc9 (HX.out.blk)
 go_enter Tryz.func20,Tryz.ntmps20
 go_wp2_with fail
 generalize (w.alloc (.cells #[.int .i64 k,.slice ra r.length rc,.int .i64 ast,.slice sa l.length sc,.int .i64 mn,.int .i64 mx,.bool z,.int .i64 ix,.string nm] 25))=w1 at *
 refine HFU.out.mono ?_
 rintro e wn ⟨rfl,hwn⟩
 subst wn
 simp only []
 by_cases hfl:20000 < L.length
 ·have hd:decide (20000 < L.length)=true:=by simpa using hfl
  rw [hd]
  go_wp2_with fail
  go_end0
  exact ⟨rfl,v,L,HL.out.row,HL.out.rk,zzF _,Nat.le_add_right _ _,fun h=>absurd h (by omega)⟩
 ·have hd:decide (20000 < L.length)=false:=by simpa using hfl
  rw [hd]
  have hcf:∀ W:World,Calls Tryz.prog 45 #[(.pointer (some ⟨rb,0,none⟩)),.int .i64 k] W fun e w'=>e=.returned (.func (Fn.func (howF k)) #[(.pointer (some ⟨rb,0,none⟩))] #[])∧w'=W:=fun W=>how_any _ _ _
  have HC:=zzA hcf
  clear hcf
  have hfk:=howF_six k
  generalize howF k=fk at *
  go_wp2_with fail
  refine wp_region_still_tail 5 (by kernel_rfl) (by kernel_rfl) ?_
  simp only [List.take_succ_cons,List.take_zero,List.drop_succ_cons,List.drop_zero]
  still_step
  still_step
  still_step
  still_call (HC.out _)
  still_step
  refine wpStill_nil ?_
  change wpList _ _ _ _ _ w1.drew
  rcases hfk with rfl | rfl | rfl | rfl | rfl | rfl
  all_goals
   go_wp2_with fail
   refine HF.out.mono ?_
   rintro e w2 ⟨rfl,v2,L2,h2⟩
   have H2:=zzA (HW.out.trans h2)
   clear h2
   simp only []
   go_wp2_with fail
   go_end0
   exact ⟨rfl,v2,L2,H2.out.cast (zzw _) rfl⟩
theorem lay_any:∀ t:Ta,Tr.Good t.tr→LY t:=by
 intro t
 induction t using Ta.ind with
 | h t ih =>
  intro hg
  cases t with
  | mk k r ra rc ast l sa sc mn mx z ix nm =>
  intro X S w rb v L h hS hr hl
  have hsi:=(simpB_iff _ 0).1 hg.2
  have hih:∀ u∈l,LY u:=fun u hu=>ih u hu (by
   have hm:u.tr∈(Ta.mk k r ra rc ast l sa sc mn mx z ix nm).tr.subs:=by rw [Ta.tr_subs];exact zzk hu
   exact ⟨((allB_iff _).1 hg.1).2 _ hm,simpB_above (hsi.2.2 _ hm) (badIn_far (by decide) (by decide))⟩)
  have hlen:=trs_length l
  have hg1:=hg.1
  have hb:=hsi.1
  simp only [Ta.tr] at hg1 hb hl ⊢
  clear ih hg hsi
  refine lay_at k r ra rc ast l sa sc mn mx z ix nm w rb v L _ _ hr fun W hW=>?_
  have hS2:Below rb w W:=hW.mono (zzo hr.blk.lt)
  have hrt:=h.below hS hS2
  have hrw:=hr.below hW
  rw [lenS] at hl ⊢
  rw [codeS]
  unfold howF
  by_cases k2:k=2
  ·subst k2
   rw [if_pos (show (2:Int)=2∨(2:Int)=3 from .inl rfl)] at hl ⊢
   rw [if_pos rfl,if_pos rfl]
   by_cases hr0:r=[]
   ·rw [if_pos hr0]
    exact class_none 2 r ra rc ast l sa sc mn mx z ix nm W rb v L hrw hl hr0
   ·rw [if_neg hr0]
    exact class_some 2 r ra rc ast l sa sc mn mx z ix nm S W rb v L hrt hS hrw hl hr0
  rw [if_neg k2,if_neg k2]
  by_cases k3:k=3
  ·subst k3
   rw [if_pos (show (3:Int)=2∨(3:Int)=3 from .inr rfl)] at hl ⊢
   rw [if_pos rfl,if_pos rfl]
   exact layAss_any 3 r ra rc ast l sa sc mn mx z ix nm W rb v L hrw hl
  rw [if_neg k3,if_neg k3]
  rw [if_neg (show ¬(k=2∨k=3) from fun e=>e.elim k2 k3)] at hl ⊢
  by_cases k7:k=7
  ·have hp:l.length=1∧0≤ix∧ix≤1000:=by
    subst k7
    generalize trs l=L at *
    cases kinds hg1 with
    | group x i s hx h0 hb hm=>exact ⟨by simpa using hlen.symm,by omega,by omega⟩
   rw [if_pos k7] at hl ⊢
   rw [if_pos k7,if_pos k7]
   exact layGrp_any k r ra rc ast l sa sc mn mx z ix nm hih S W rb v L hrt hS hrw hp.1 hp.2 hl
  rw [if_neg k7] at hl ⊢
  rw [if_neg k7,if_neg k7]
  by_cases k5:k=5
  ·have hp:∃ m,l.length=m+1:=by
    subst k5
    generalize trs l=L at *
    cases kinds hg1 with
    | alt l2 h2 hs=>exact ⟨l.length - 1,by omega⟩
   obtain ⟨m,hm⟩:=hp
   rw [if_pos k5] at hl ⊢
   rw [if_pos k5,if_pos k5]
   rw [hlen,hm,Nat.add_sub_cancel] at hl ⊢
   exact layAlt_any k r ra rc ast l sa sc mn mx z ix nm hih S W rb v L hrt hS hrw m hm hl
  rw [if_neg k5] at hl ⊢
  rw [if_neg k5,if_neg k5]
  by_cases k6:k=6
  ·have hp:l.length=1∧(mn=1∨(mn=0∧(mx=-1∨mx=1))):=by
    subst k6
    generalize trs l=L at *
    cases kinds hg1 with
    | rep x n m z hx h0 h1 hm =>
     rw [badRep,decide_eq_false_iff_not] at hb
     exact ⟨by simpa using hlen.symm,by omega⟩
   rw [if_pos k6] at hl ⊢
   rw [if_pos k6,if_pos k6]
   obtain ⟨hl1,rfl | ⟨rfl,rfl | rfl⟩⟩:=hp
   ·rw [if_pos rfl] at hl ⊢
    rw [if_pos rfl]
    exact rep_plus k r ra rc ast l sa sc mx z ix nm hih S W rb v L hrt hS hrw hl1 hl
   ·rw [if_neg (by decide),if_pos (by decide)] at hl ⊢
    rw [if_neg (by decide),if_pos (by decide)]
    exact rep_star k r ra rc ast l sa sc z ix nm hih S W rb v L hrt hS hrw hl1 hl
   ·rw [if_neg (by decide),if_neg (by decide)] at hl ⊢
    rw [if_neg (by decide),if_neg (by decide)]
    exact rep_quest k r ra rc ast l sa sc z ix nm hih S W rb v L hrt hS hrw hl1 hl
  rw [if_neg k6] at hl ⊢
  rw [if_neg k6,if_neg k6]
  exact layCat_any k r ra rc ast l sa sc mn mx z ix nm hih S W rb v L hrt hS hrw hl
end Go.Proofs.YtgkclnmmjedmkaaGreat
