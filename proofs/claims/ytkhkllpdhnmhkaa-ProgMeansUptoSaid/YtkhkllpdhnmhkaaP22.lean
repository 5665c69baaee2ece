/- heronref02: word, At, Holds. -/
import Derived.Handy
import Derived.Laws.EntriesVeiled
import Derived.BigQuiet
import Derived.Deep.QuietTactic
import Derived.Test.YtkhkllpdhnmhkaaP00
import Derived.Test.YtkhkllpdhnmhkaaP01
import Derived.Test.YtkhkllpdhnmhkaaP02
namespace Go.Proofs.Ytkhkllpdhnmhkaa
open Go.RowKit Mach
theorem refWord2_any (r:Int) (w:World) :
  Calls Try.prog 72 #[.int .i64 r] w fun e w'=>e=.returned (.bool (word r))∧w=w':=by
 go_enter Try.func72,Try.ntmps72
 go_wp2
 all_goals go_ret
 all_goals exact ⟨ret_bool (by unfold word;rw [Bool.eq_iff_iff];simp;try omega),rfl⟩
theorem shr_pow:∀ j < 6,∀ i < 64,(bits .and .i64 (((2 ^ j:Nat):Int) / 2 ^ i) 1==1)=decide (i=j):=by decide +kernel
theorem shr_bit:∀ j < 6,∀ s < 64,(bits .and .i64 (((s:Nat):Int) / 2 ^ j) 1==0)=!decide (((s:Nat):Int) / ((2 ^ j:Nat):Int) % 2=1):=by decide +kernel
set_option maxHeartbeats 1000000 in
theorem refHolds_any (j s:Nat) (hj:j < 6) (hs:s < 64) (w:World) :
  Calls Try.prog 42 #[.int .i64 ((2 ^ j:Nat):Int),.int .i64 (s:Int)] w fun e w'=>e=.returned (.bool (decide (((s:Nat):Int) / ((2 ^ j:Nat):Int) % 2=1)))∧w=w':=by
 have H1:=shr_pow j hj
 have H2:=shr_bit j hj s hs
 have HJ:=zzA hj
 generalize ((2 ^ j:Nat):Int)=p at *
 generalize decide ((s:Int) / p % 2=1)=r at *
 have HH1:=zzA H1
 have HH2:=zzA H2
 clear H1 H2 hs hj
 go_enter Try.func42,Try.ntmps42
 go_wp2_with fail
 go_loopw [5] (fun q wr=>∃ i:Nat,i≤64∧q=.int .i64 i∧(j < i→r=true)∧w=wr) (fun q _=>64 - (intOf q).toNat)
 case atStart=>exact ⟨0,by omega,rfl,by omega,rfl⟩
 case round =>
  obtain ⟨i,hi,rfl,hno,rfl⟩:=hrel
  have HNO:=zzA hno
  clear hno
  by_cases hlt:i < 64
  ·have h1:=HH1.out i hlt
   obtain ⟨y,hy⟩:∃ y,bits .and .i64 (p / 2 ^ i) 1=y:=⟨_,rfl⟩
   rw [hy] at h1
   by_cases hij:i=j
   ·subst hij
    have h2:=HH2.out
    rw [decide_eq_true rfl] at h1
    obtain ⟨z,hz⟩:∃ z,bits .and .i64 ((s:Int) / 2 ^ i) 1=z:=⟨_,rfl⟩
    rw [hz] at h2
    cases r
    ·go_wp2_with fail
     go_ret
     exact ⟨rfl,rfl⟩
    ·go_wp2_with fail
     exact ⟨⟨i+1,by omega,by go_num,(by intros;first | rfl | trivial),(by first | rfl | trivial)⟩,by simp [intOf];omega⟩
   ·rw [decide_eq_false hij] at h1
    have HIJ:=zzA hij
    clear hij
    go_wp2_with fail
    exact ⟨⟨i+1,by omega,by go_num,fun h=>HNO.out (by have:=HIJ.out;omega),trivial⟩,by simp [intOf];omega⟩
  ·obtain rfl:i=64:=by omega
   go_wp2_with fail
   go_ret
   exact ⟨ret_bool (HNO.out (by have:=HJ.out;omega)).symm,rfl⟩
theorem text_at {w:World} {B n c:Nat} {b off:Nat} {t:List Int} (h:Reads w B 1 (some ⟨b,off,none⟩) n c (t.map (Value.int .i64))) {k:Nat} (hk:k < n):w.cell? ⟨b,off+k,none⟩=some (.int .i64 (t.getD k 0)):=by
 have hl:t.length=n:=by have:=h.len;simpa using this
 refine h.cellAt ?_
 rw [zza,zzJ (by omega),List.getD_eq_getElem?_getD,zzJ (by omega)]
 rfl
theorem atBits_eq (t:List Int) (k:Nat):atBits t k=(if hb t k 0 then 1 else 0)+(if hb t k 1 then 2 else 0)+(if hb t k 2 then 4 else 0)+(if hb t k 3 then 8 else 0)+(if hb t k 4 then 16 else 0)+(if hb t k 5 then 32 else 0):=by
 simp only [atBits,sumB]
 repeat' split
 all_goals simp
theorem atBits_of {t:List Int} {k:Nat} {a b:Bool} {x y:Bool} (f1:decide (k=0)=a) (f2:decide (k=t.length)=b) (f3:(a || t.getD (k - 1) 0==10)=x) (f4:(b || t.getD k 0==10)=y) :
  atBits t k=(if a then 1 else 0)+(if b then 2 else 0)+(if x then 4 else 0)+(if y then 8 else 0)+(if ((!a && word (t.getD (k - 1) 0)) != (!b && word (t.getD k 0))) then 16 else 32):=by
 rw [atBits_eq]
 simp only [hb,f1,f2,f3,f4]
 cases ((!a && word (t.getD (k - 1) 0)) != (!b && word (t.getD k 0))) <;> simp
set_option maxRecDepth 100000 in
set_option maxHeartbeats 2000000 in
theorem refAt_any (A:Option Addr) (n c k B:Nat) (t:List Int) (w:World) (hr:Reads w B 1 A n c (t.map (Value.int .i64))) (hk:k≤n) :
  Calls Try.prog 41 #[.slice A n c,.int .i64 (k:Int)] w fun e w'=>e=.returned (.int .i64 (atBits t k))∧w=w':=by
 have hnc:=hr.le
 have hcap:=hr.cap
 have hl:t.length=n:=by have:=hr.len;simpa using this
 have HL:=zzA hl
 have HT:=zzA (show ∀ b off,A=some ⟨b,off,none⟩→∀ j,j < n→w.cell? ⟨b,off+j,none⟩=some (.int .i64 (t.getD j 0)) from fun b off e j hj=>by
  rw [e] at hr
  exact text_at hr hj)
 obtain ⟨za,hza⟩:∃ z,z=t.getD (k - 1) 0:=⟨_,rfl⟩
 obtain ⟨zb,hzb⟩:∃ z,z=t.getD k 0:=⟨_,rfl⟩
 have HZA:=zzA hza
 have HZB:=zzA hzb
 have HPOS:=zzA (show 0 < n→∃ b off,A=some ⟨b,off,none⟩ from fun h=>by obtain ⟨b,off,e,_⟩:=hr.at_ h;exact ⟨b,off,e⟩)
 have HEQ:=zzA (show ∀ a b x y,decide (k=0)=a→decide (k=n)=b→(a || za==10)=x→(b || zb==10)=y→atBits t k=(if a then 1 else 0)+(if b then 2 else 0)+(if x then 4 else 0)+(if y then 8 else 0)+(if ((!a && word za) != (!b && word zb)) then 16 else 32) from fun a b x y f1 f2 f3 f4=>by
  rw [hza,hzb] at *
  exact atBits_of f1 (by rw [hl];exact f2) f3 f4)
 clear hr hl hza hzb
 obtain ⟨E,hE⟩:∃ E,E=atBits t k:=⟨_,rfl⟩
 rw [←hE] at HEQ ⊢
 clear hE
 by_cases g1:k=0
 ·by_cases g2:k=n
  ·subst g1
   obtain rfl:n=0:=g2.symm
   have HR2:=HEQ.out true true true true rfl rfl rfl rfl
   simp only [Bool.not_true,Bool.false_and,bne_self_eq_false,if_true,Bool.false_eq_true,if_false] at HR2
   subst HR2
   clear HEQ
   go_enter Try.func41,Try.ntmps41
   go_wp2_with fail
   go_ret
   exact ⟨rfl,rfl⟩
  ·subst g1
   have hlt:0 < n:=by omega
   obtain ⟨b,off,rfl⟩:=HPOS.out hlt
   have hz2:w.cell? ⟨b,off,none⟩=some (.int .i64 zb):=by have:=HT.out b off rfl 0 hlt;rw [HZB.out];simpa using this
   have HR2:=zzA (fun y h=>HEQ.out true false true y rfl (decide_eq_false g2) rfl h)
   clear g2 HEQ
   go_enter Try.func41,Try.ntmps41
   cases hw:word zb <;> cases hy:zb==10
   all_goals
    have hR:=HR2.out _ (by rw [hy])
    simp only [hw,hy] at hR
    go_wp2_with (go_at_call 72;refine (refWord2_any _ _).mono ?_;rintro e w' ⟨rfl,rfl⟩;rw [hw])
    go_ret
    exact ⟨ret_int (by rw [hR];simp),rfl⟩
 ·obtain ⟨b,off,rfl⟩:=HPOS.out (by omega)
  have hj1:((k:Int) - 1).toNat=k - 1:=by omega
  have hj2:0≤(k:Int) - 1:=by omega
  have hj3:(k:Int) - 1 < n:=by omega
  have hy2:w.cell? ⟨b,off+(k - 1),none⟩=some (.int .i64 za):=by rw [HZA.out];exact HT.out b off rfl (k - 1) (by omega)
  have hk0:0 < k:=by omega
  by_cases g2:k=n
  ·have h2:((k:Int)==(n:Int))=true:=by rw [beq_iff_eq];omega
   have HR2:=zzA (fun x h=>HEQ.out false true x true (decide_eq_false g1) (decide_eq_true g2) h rfl)
   clear g1 g2 HEQ
   go_enter Try.func41,Try.ntmps41
   cases hw:word za <;> cases hy:za==10
   all_goals
    have hR:=HR2.out _ (by rw [hy])
    simp only [hw,hy] at hR
    go_wp2_with (go_at_call 72;refine (refWord2_any _ _).mono ?_;rintro e w' ⟨rfl,rfl⟩;rw [hw])
    go_ret
    exact ⟨ret_int (by rw [hR];simp),rfl⟩
  ·have hlt:k < n:=by omega
   have hz2:w.cell? ⟨b,off+k,none⟩=some (.int .i64 zb):=by rw [HZB.out];exact HT.out b off rfl k hlt
   have h2:((k:Int)==(n:Int))=false:=by rw [beq_eq_false_iff_ne];omega
   have HR2:=zzA (fun x y h h'=>HEQ.out false false x y (decide_eq_false g1) (decide_eq_false g2) h h')
   clear g1 g2 HEQ
   go_enter Try.func41,Try.ntmps41
   cases hw:word za <;> cases hy:za==10 <;> cases hw':word zb <;> cases hy':zb==10
   all_goals
    have hR:=HR2.out _ _ (by rw [hy]) (by rw [hy'])
    simp only [hw,hy,hw',hy'] at hR
    go_wp2_with (go_at_call 72;refine (refWord2_any _ _).mono ?_;rintro e w' ⟨rfl,rfl⟩;first | rw [hw] | rw [hw'])
    go_ret
    exact ⟨ret_int (by rw [hR];simp),rfl⟩
end Go.Proofs.Ytkhkllpdhnmhkaa
