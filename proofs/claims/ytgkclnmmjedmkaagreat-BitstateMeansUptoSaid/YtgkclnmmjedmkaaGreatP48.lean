/- bitstate.Run: what stands in memory. -/
import Derived.Deep.LoopGhost
import Derived.BigQuiet
import Derived.Deep.QuietTactic
import Derived.WalkLawsBesides
import Derived.Test.YtgkclnmmjedmkaaGreatP10
import Derived.Test.YtgkclnmmjedmkaaGreatP47
set_option maxRecDepth 1000000
set_option maxHeartbeats 4000000
namespace Go.Proofs.YtgkclnmmjedmkaaGreat
open Go.RowKit Mach
structure Blocks where
 P:Nat
 R:Nat
 M:Nat
 C:Nat
 S:Nat
structure Blocks.From (b:Blocks) (B:Nat):Prop where
 P:B≤b.P
 R:B≤b.R
 M:B≤b.M
 C:B≤b.C
 S:B≤b.S
structure Rn (w0:World) (b:Blocks) (A:Option Addr) (n c:Nat) (start caps:Int) (V:Value) (ws:List Nat) (s:MS) (w:World):Prop where
 below:Below w0.heap.size w0 w
 lo:b.From w0.heap.size
 prog:Blk w b.P 32 [.slice A n c,.int .i64 start,.int .i64 caps]
 found:Blk w b.R 40 [.bool false,.slice none 0 0,.int .i64 0,.int .i64 0]
 met:Blk w b.M 85 (ws.map fun x:Nat=>.int .u64 (x:Int))
 bits:Bits ws s.met
 capt:Blk w b.C 3 (s.caps.map (Value.int .i64))
 stk:Stk w w0.heap.size b.S V s.todo
section
variable {w0 w w':World} {b:Blocks} {A:Option Addr} {n c:Nat} {start caps:Int} {V V':Value} {ws:List Nat} {s:MS}
theorem Rn.drewN (h:Rn w0 b A n c start caps V ws s w) (k:Nat):Rn w0 b A n c start caps V ws s (w.drewN k) :=
 ⟨bdrewN h.below k,h.lo,h.prog.drewN k,h.found.drewN k,h.met.drewN k,h.bits,h.capt.drewN k,h.stk.drewN k⟩
theorem Rn.later (h:Rn w0 b A n c start caps V ws s w) (hb:Below w.heap.size w w'):Rn w0 b A n c start caps V ws s w' :=
 ⟨h.below.trans (hb.mono h.below.size),h.lo,h.prog.below hb h.prog.lt,h.found.below hb h.found.lt,h.met.below hb h.met.lt,h.bits,h.capt.below hb h.capt.lt,h.stk.below hb⟩
theorem Rn.drew (h:Rn w0 b A n c start caps V ws s w):Rn w0 b A n c start caps V ws s w.drew:=h.drewN 1
theorem Rn.stacked (h:Rn w0 b A n c start caps V ws s w) (k:Kept w w' (b.S :: V.ownBlock.toList)) {l:List Job} (hs:Stk w' w0.heap.size b.S V' l):Rn w0 b A n c start caps V' ws { s with todo:=l } w':=by
 obtain ⟨m,hb⟩:=h.stk.blk
 have far:∀ {g:Nat} {t:TypeId} {cs:List Value},Blk w g t cs→79≠t→82≠t→g ∉ (b.S :: V.ownBlock.toList):=fun hg h1 h2 hm=>by
  simp only [zzN,Option.mem_toList] at hm
  rcases hm with e | e
  ·exact hb.ne_ hg h1 e.symm
  ·exact blk_apart h.stk.own hg h2 e.symm
 refine ⟨zyH h.below k ?_ h.below.size,h.lo,h.prog.kept k (far h.prog (by decide) (by decide)),h.found.kept k (far h.found (by decide) (by decide)),h.met.kept k (far h.met (by decide) (by decide)),h.bits,h.capt.kept k (far h.capt (by decide) (by decide)),hs⟩
 intro g hg
 simp only [zzN,Option.mem_toList] at hg
 rcases hg with rfl | e
 ·exact h.lo.S
 ·exact (h.stk.own.lt g e).1
theorem Rn.captured (h:Rn w0 b A n c start caps V ws s w) (q:Nat) (x:Int):Rn w0 b A n c start caps V ws { s with caps:=s.caps.set q x } (w.setCell ⟨b.C,q,none⟩ (.int .i64 x)):=by
 have ne:∀ {g:Nat} {t:TypeId} {cs:List Value},Blk w g t cs→t≠3→g≠b.C:=fun hg h1=>hg.ne_ h.capt h1
 obtain ⟨m,hb⟩:=h.stk.blk
 have k:=zyG (w:=w) ⟨b.C,q,none⟩ (.int .i64 x)
 refine ⟨zyH h.below k (by intro g hg;rw [zzE] at hg;rw [hg];exact h.lo.C) h.below.size,h.lo,h.prog.far (ne h.prog (by decide)) _,h.found.far (ne h.found (by decide)) _,h.met.far (ne h.met (by decide)) _,h.bits,?_,?_⟩
 ·have:=h.capt.set_ q (.int .i64 x)
  rw [←List.map_set] at this
  exact this
 ·refine h.stk.kept k (by rw [zzE];exact ne hb (by decide)) ?_
  intro g hg hm
  rw [zzE] at hm
  exact blk_apart h.stk.own h.capt (by decide) (by rw [hg,hm])
theorem Rn.marked (h:Rn w0 b A n c start caps V ws s w) {q x:Nat} (hq:q < s.met.length) (hx:ws[q / 64]?=some x) :
  Rn w0 b A n c start caps V (ws.set (q / 64) (x ||| 2 ^ (q % 64))) { s with met:=s.met.set q true } (w.setCell ⟨b.M,q / 64,none⟩ (.int .u64 ((x ||| 2 ^ (q % 64):Nat):Int))):=by
 have ne:∀ {g:Nat} {t:TypeId} {cs:List Value},Blk w g t cs→t≠85→g≠b.M:=fun hg h1=>hg.ne_ h.met h1
 obtain ⟨m,hb⟩:=h.stk.blk
 have k:=zyG (w:=w) ⟨b.M,q / 64,none⟩ (.int .u64 ((x ||| 2 ^ (q % 64):Nat):Int))
 refine ⟨zyH h.below k (by intro g hg;rw [zzE] at hg;rw [hg];exact h.lo.M) h.below.size,h.lo,h.prog.far (ne h.prog (by decide)) _,h.found.far (ne h.found (by decide)) _,?_,h.bits.set_ hq hx,h.capt.far (ne h.capt (by decide)) _,?_⟩
 ·have:=h.met.set_ (q / 64) (.int .u64 ((x ||| 2 ^ (q % 64):Nat):Int))
  rw [show (ws.map fun x:Nat=>Value.int .u64 (x:Int)).set (q / 64) (.int .u64 ((x ||| 2 ^ (q % 64):Nat):Int))=(ws.set (q / 64) (x ||| 2 ^ (q % 64))).map fun x:Nat=>Value.int .u64 (x:Int) from (List.map_set ..).symm] at this
  exact this
 ·refine h.stk.kept k (by rw [zzE];exact ne hb (by decide)) ?_
  intro g hg hm
  rw [zzE] at hm
  exact blk_apart h.stk.own h.met (by decide) (by rw [hg,hm])
theorem Rn.counted (h:Rn w0 b A n c start caps V ws s w) (k:Nat) (f:Option Int):Rn w0 b A n c start caps V ws { s with steps:=k,fin:=f } w :=
 ⟨h.below,h.lo,h.prog,h.found,h.met,h.bits,h.capt,h.stk⟩
end
def loopsOf:Code→List Code
 | .loop c=>c :: loopsOf c
 | .seq a b=>loopsOf a++loopsOf b
 | .block _ c=>loopsOf c
 | .scope c=>loopsOf c
 | .cond _ a b=>loopsOf a++loopsOf b
 | _=>[]
noncomputable def pairsBody:Code:=(((Tryz.f10.body.map loopsOf).getD [])[2]?).getD .skip
noncomputable def beginsBody:Code:=(((Tryz.f10.body.map loopsOf).getD [])[0]?).getD .skip
def PF (b:Blocks) (At:Option Addr) (nt ct k0 pl wl cl:Nat) (anch:Bool) (v0 vb s13:Value) (a:Act):Prop:=∃ aA aB aC aD aE aF aG aH aI bA bB bC bD bE bF bG bH bI cA cB cC cD cE cF cG cH cI dA dB dC dD dE dF dG dH dI eA eB eC eD eE eF eG eH eI fA fB fC fD fE fF fG fH fI gA gB gC gD gE gF gG gH gI hA hB hC hD hE hF hG hH hI iA iB iC iD iE iF iG iH iI jA jB jC jD jE jF jG jH jI kA kB kC kD kE kF kG kH kI lA lB lC lD lE lF lG lH lI mA mB mC mD mE mF mG mH mI nA nB nC nD nE nF nG nH nI oA oB oC oD oE oF oG oH oI pA pB pC pD pE pF pG pH pI qA qB qC qD qE qF qG qH qI rA rB rC rD rE rF rG rH rI sA sB sC sD sE sF sG sH sI tA tB tC tD tE tF tG tH tI uA uB uC uD uE uF uG uH uI vA vB vC vD vE vF vG vH vI wA wB wC wD wE wF wG wH wI xA xB xC xD xE xF xG xH xI yA yB yC yD yE yF yG yH:Value,a=⟨(v0 :: (.slice At nt ct) :: (.int .i64 (k0:Int)) :: (.bool anch) :: (.pointer (some ⟨b.P,0,none⟩)) :: aA :: aB :: aC :: (.pointer (some ⟨b.R,0,none⟩)) :: aD :: (.int .i64 (pl:Int)) :: (.slice (some ⟨b.M,0,none⟩) wl wl) :: (.slice (some ⟨b.C,0,none⟩) cl cl) :: s13 :: (.pointer (some ⟨b.S,0,none⟩)) :: vb :: aE :: aF :: aG :: aH :: aI :: bA :: bB :: bC :: bD :: bE :: bF :: bG :: bH :: bI :: cA :: cB :: cC :: cD :: cE :: cF :: cG :: cH :: cI :: dA :: dB :: dC :: dD :: dE :: dF :: dG :: dH :: dI :: eA :: eB :: eC :: eD :: eE :: eF :: eG :: eH :: eI :: fA :: fB :: fC :: fD :: fE :: fF :: fG :: fH :: fI :: gA :: gB :: gC :: gD :: gE :: gF :: gG :: gH :: gI :: hA :: hB :: hC :: hD :: hE :: hF :: hG :: hH :: hI :: iA :: iB :: iC :: iD :: iE :: iF :: iG :: iH :: iI :: jA :: jB :: jC :: jD :: jE :: jF :: jG :: jH :: jI :: kA :: kB :: kC :: kD :: kE :: kF :: kG :: kH :: kI :: lA :: lB :: lC :: lD :: lE :: lF :: lG :: lH :: lI :: mA :: mB :: mC :: mD :: mE :: mF :: mG :: mH :: mI :: nA :: nB :: nC :: nD :: nE :: nF :: nG :: nH :: nI :: oA :: oB :: oC :: oD :: oE :: oF :: oG :: oH :: oI :: pA :: pB :: pC :: pD :: pE :: pF :: pG :: pH :: pI :: qA :: qB :: qC :: qD :: qE :: qF :: qG :: qH :: qI :: rA :: rB :: rC :: rD :: rE :: rF :: rG :: rH :: rI :: sA :: sB :: sC :: sD :: sE :: sF :: sG :: sH :: sI :: tA :: tB :: tC :: tD :: tE :: tF :: tG :: tH :: tI :: uA :: uB :: uC :: uD :: uE :: uF :: uG :: uH :: uI :: vA :: vB :: vC :: vD :: vE :: vF :: vG :: vH :: vI :: wA :: wB :: wC :: wD :: wE :: wF :: wG :: wH :: wI :: xA :: xB :: xC :: xD :: xE :: xF :: xG :: xH :: xI :: yA :: yB :: yC :: yD :: yE :: yF :: yG :: yH :: []).toArray,[]⟩
theorem PF.of {b:Blocks} {At:Option Addr} {nt ct k0 pl wl cl:Nat} {anch:Bool} {v0 vb s13:Value} {aA aB aC aD aE aF aG aH aI bA bB bC bD bE bF bG bH bI cA cB cC cD cE cF cG cH cI dA dB dC dD dE dF dG dH dI eA eB eC eD eE eF eG eH eI fA fB fC fD fE fF fG fH fI gA gB gC gD gE gF gG gH gI hA hB hC hD hE hF hG hH hI iA iB iC iD iE iF iG iH iI jA jB jC jD jE jF jG jH jI kA kB kC kD kE kF kG kH kI lA lB lC lD lE lF lG lH lI mA mB mC mD mE mF mG mH mI nA nB nC nD nE nF nG nH nI oA oB oC oD oE oF oG oH oI pA pB pC pD pE pF pG pH pI qA qB qC qD qE qF qG qH qI rA rB rC rD rE rF rG rH rI sA sB sC sD sE sF sG sH sI tA tB tC tD tE tF tG tH tI uA uB uC uD uE uF uG uH uI vA vB vC vD vE vF vG vH vI wA wB wC wD wE wF wG wH wI xA xB xC xD xE xF xG xH xI yA yB yC yD yE yF yG yH:Value}:PF b At nt ct k0 pl wl cl anch v0 vb s13 ⟨(v0 :: (.slice At nt ct) :: (.int .i64 (k0:Int)) :: (.bool anch) :: (.pointer (some ⟨b.P,0,none⟩)) :: aA :: aB :: aC :: (.pointer (some ⟨b.R,0,none⟩)) :: aD :: (.int .i64 (pl:Int)) :: (.slice (some ⟨b.M,0,none⟩) wl wl) :: (.slice (some ⟨b.C,0,none⟩) cl cl) :: s13 :: (.pointer (some ⟨b.S,0,none⟩)) :: vb :: aE :: aF :: aG :: aH :: aI :: bA :: bB :: bC :: bD :: bE :: bF :: bG :: bH :: bI :: cA :: cB :: cC :: cD :: cE :: cF :: cG :: cH :: cI :: dA :: dB :: dC :: dD :: dE :: dF :: dG :: dH :: dI :: eA :: eB :: eC :: eD :: eE :: eF :: eG :: eH :: eI :: fA :: fB :: fC :: fD :: fE :: fF :: fG :: fH :: fI :: gA :: gB :: gC :: gD :: gE :: gF :: gG :: gH :: gI :: hA :: hB :: hC :: hD :: hE :: hF :: hG :: hH :: hI :: iA :: iB :: iC :: iD :: iE :: iF :: iG :: iH :: iI :: jA :: jB :: jC :: jD :: jE :: jF :: jG :: jH :: jI :: kA :: kB :: kC :: kD :: kE :: kF :: kG :: kH :: kI :: lA :: lB :: lC :: lD :: lE :: lF :: lG :: lH :: lI :: mA :: mB :: mC :: mD :: mE :: mF :: mG :: mH :: mI :: nA :: nB :: nC :: nD :: nE :: nF :: nG :: nH :: nI :: oA :: oB :: oC :: oD :: oE :: oF :: oG :: oH :: oI :: pA :: pB :: pC :: pD :: pE :: pF :: pG :: pH :: pI :: qA :: qB :: qC :: qD :: qE :: qF :: qG :: qH :: qI :: rA :: rB :: rC :: rD :: rE :: rF :: rG :: rH :: rI :: sA :: sB :: sC :: sD :: sE :: sF :: sG :: sH :: sI :: tA :: tB :: tC :: tD :: tE :: tF :: tG :: tH :: tI :: uA :: uB :: uC :: uD :: uE :: uF :: uG :: uH :: uI :: vA :: vB :: vC :: vD :: vE :: vF :: vG :: vH :: vI :: wA :: wB :: wC :: wD :: wE :: wF :: wG :: wH :: wI :: xA :: xB :: xC :: xD :: xE :: xF :: xG :: xH :: xI :: yA :: yB :: yC :: yD :: yE :: yF :: yG :: yH :: []).toArray,[]⟩:=by
 unfold PF
 (repeat apply Exists.intro)
 rfl
structure Pq (w0:World) (b:Blocks) (A:Option Addr) (n c k0 pl wl:Nat) (start caps:Int) (V:Value) (ws:List Nat) (s:MS) (w:World) (L:List InV) (i k q:Nat) (r:List Job) (v:InV):Prop where
 h:Rn w0 b A n c start caps V ws s w
 ht:s.todo=.pair i k :: r
 hroom:r.length≤999999990
 hi:i≤20000
 hk:k≤4194304
 hk0:k0≤k
 hpl:pl≤4194305
 hq:i*pl+(k - k0)=q
 hq2:q < s.met.length
 hq3:s.met.length≤16777216
 hst:s.steps≤16777216
 hwl:wl=ws.length
 hm:s.met.getD q true=false
 hP:ReadsP w0 w0.heap.size A n c L
 hv:L[i]?=some v
theorem pair_facts {w0 w:World} {b:Blocks} {A:Option Addr} {n c k0 pl wl i k q:Nat} {start caps:Int} {V:Value} {ws:List Nat} {s:MS} {mm:Bool} (h:Rn w0 b A n c start caps V ws s w) (hk0:k0≤k) (hq:i*pl+(k - k0)=q) (hq2:q < s.met.length) (hq3:s.met.length≤16777216) (hwl:wl=ws.length) (hm:s.met.getD q true=mm):∃ (x:Nat) (y:Int),Hid (ws[q / 64]?=some x)∧bits .and .u64 ((x:Int) / 2 ^ (q % 64)) 1=y∧(y==1)=mm∧bits .or .u64 (x:Int) (IntKind.u64.wrap (2 ^ (q % 64)))=((x ||| 2 ^ (q % 64):Nat):Int)∧Hid ((ws.map fun x:Nat=>Value.int .u64 (x:Int))[q / 64]?=some (.int .u64 (x:Int)))∧q / 64 < ws.length∧((q / 64:Nat):Int) < (wl:Int)∧0≤(i:Int)*(pl:Int)∧(i:Int)*(pl:Int)+(k:Int) - (k0:Int)=(q:Int)∧(i:Int)*(pl:Int)≤16777216:=by
 obtain ⟨x,hx,hx64,hxb⟩:=h.bits.at_ hq2
 have hmt:=mask_test x (q % 64) hx64
 rw [hxb,hm] at hmt
 have hql:=(zzK.1 hx).1
 have e:(i:Int)*(pl:Int)=((i*pl:Nat):Int):=by norm_cast
 exact ⟨x,_,hx,rfl,hmt,mask_set x (q % 64) hx64 (by omega),by rw [zza,hx];rfl,hql,by omega,by omega,by omega,by omega⟩
theorem pre_facts {w0 w1 w2:World} {b:Blocks} {n c:Nat} {start caps:Int} {V1:Value} {ws:List Nat} {s:MS} {x i k q ab ao:Nat} {r:List Job} {L:List InV} {iop ix iy iarg:Int} {irng:List (Int × Int)} {iA:Option Addr} {inn ic:Nat} (H1:Rn w0 b (some ⟨ab,ao,none⟩) n c start caps V1 ws { s with todo:=r } w1) (hq:q < s.met.length) (hx:ws[q / 64]?=some x) (hP:ReadsP w0 w0.heap.size (some ⟨ab,ao,none⟩) n c L) (hab:ab < w0.heap.size) (hv:L[i]?=some ⟨⟨iop,ix,iy,iarg,irng⟩,iA,inn,ic⟩) (hw:((w1.setCell ⟨b.M,q / 64,none⟩ (.int .u64 ((x ||| 2 ^ (q % 64):Nat):Int))).alloc (.cells #[.int .i64 (i:Int),.int .i64 (k:Int),.int .i64 0,.int .i64 0] 82)).drew=w2) :
  Hid (Rn w0 b (some ⟨ab,ao,none⟩) n c start caps V1 (ws.set (q / 64) (x ||| 2 ^ (q % 64))) { s with todo:=r,met:=s.met.set q true } w2)∧Hid (Blk w2 w1.heap.size 82 [.int .i64 (i:Int),.int .i64 (k:Int),.int .i64 0,.int .i64 0])∧Hid (ReadsP w2 w0.heap.size (some ⟨ab,ao,none⟩) n c L)∧Hid (∀ g,w1.heap.size≤g→g ∉ (b.S :: V1.ownBlock.toList)) ∧
  w2.cell? ⟨b.P,0,none⟩=some (.slice (some ⟨ab,ao,none⟩) n c)∧b.P < w2.heap.size∧w2.cell? ⟨w1.heap.size,0,none⟩=some (.int .i64 (i:Int))∧w2.cell? ⟨w1.heap.size,1,none⟩=some (.int .i64 (k:Int))∧w1.heap.size < w2.heap.size∧ab < w2.heap.size ∧
  w2.cell? ⟨ab,ao+i*5,none⟩=some (.int .i64 iop)∧w2.cell? ⟨ab,ao+i*5+1,none⟩=some (.int .i64 ix)∧w2.cell? ⟨ab,ao+i*5+2,none⟩=some (.int .i64 iy)∧w2.cell? ⟨ab,ao+i*5+3,none⟩=some (.int .i64 iarg)∧w2.cell? ⟨ab,ao+i*5+4,none⟩=some (.slice iA inn ic):=by
 subst hw
 have hn:=((H1.marked hq hx).later ((zzb _ _).alloc (zzF _) (.cells #[.int .i64 (i:Int),.int .i64 (k:Int),.int .i64 0,.int .i64 0] 82))).drew
 have hjb:=(zyI (w1.setCell ⟨b.M,q / 64,none⟩ (.int .u64 ((x ||| 2 ^ (q % 64):Nat):Int))) 82 [.int .i64 (i:Int),.int .i64 (k:Int),.int .i64 0,.int .i64 0]).drew
 rw [show (w1.setCell ⟨b.M,q / 64,none⟩ (.int .u64 ((x ||| 2 ^ (q % 64):Nat):Int))).heap.size=w1.heap.size from by simp [World.setCell]] at hjb
 have hr:=hP.below hn.below
 refine ⟨hn,hjb,hr,?_,hn.prog.cell 0,hn.prog.lt,hjb.cell 0,hjb.cell 1,hjb.lt,zzQ hab hn.below.size,hr.cells hv⟩
 intro g hg hm
 simp only [zzN,Option.mem_toList] at hm
 rcases hm with e | e
 ·obtain ⟨m,hb⟩:=H1.stk.blk
  have:=hb.lt
  omega
 ·have:=(H1.stk.own.lt g e).2
  omega
theorem round_empty {w0:World} {b:Blocks} {A At:Option Addr} {n c nt ct k0 pl wl cl:Nat} {start caps:Int} {V:Value} {ws:List Nat} {s:MS} {w:World} {anch:Bool} {v0 vb:Value} {L:List InV} {t:List Int}  {K:Act→World→Prop} {Q:Exit→Act→World→Prop} {a:Act} (ha:PF b At nt ct k0 pl wl cl anch v0 vb (.int .i64 (s.steps:Int)) a)
  (h:Rn w0 b A n c start caps V ws s w) (ht:s.todo=[])
  (h1:anch=true→∀ (a:Act) (w':World),PF b At nt ct k0 pl wl cl anch v0 vb (.int .i64 (s.steps:Int)) a→(Rn w0 b A n c start caps V ws s w')→Q (.exit 1) a w')
  (h2:anch=false→∀ (a:Act) (w':World),PF b At nt ct k0 pl wl cl anch v0 vb (.int .i64 (s.steps:Int)) a→(Rn w0 b A n c start caps V ws s w')→Q (.exit 2) a w')
  : Code.wp Tryz.prog pairsBody (Exit.then K Q) a w:=by
 have hs:=h.stk
 rw [ht] at hs
 have H:=zzA h
 have HP:=zzA (pop_empty w0.heap.size b.S V w hs)
 clear h hs ht
 unfold PF at ha
 iterate 224 obtain ⟨_,ha⟩:=ha
 subst ha
 conv=>arg 2;whnf
 cases anch with
 | true =>
  have H1:=zzA (h1 rfl)
  clear h1 h2
  go_wp2_with (go_at_call 36;refine HP.out.mono ?_;rintro e w1 ⟨rfl,hb1⟩;simp only [])
  refine H1.out _ _ PF.of ?_
  exact (H.out.later hb1).later ((zzb _ _).alloc (zzF _) _)
 | false =>
  have H2:=zzA (h2 rfl)
  clear h1 h2
  go_wp2_with (go_at_call 36;refine HP.out.mono ?_;rintro e w1 ⟨rfl,hb1⟩;simp only [])
  refine H2.out _ _ PF.of ?_
  exact (H.out.later hb1).later ((zzb _ _).alloc (zzF _) _)
theorem round_back {w0:World} {b:Blocks} {A At:Option Addr} {n c nt ct k0 pl wl cl:Nat} {start caps:Int} {V:Value} {ws:List Nat} {s:MS} {w:World} {anch:Bool} {v0 vb:Value} {L:List InV} {t:List Int} {cc:Nat} {old:Int} {r:List Job} {K:Act→World→Prop} {Q:Exit→Act→World→Prop} {a:Act} (ha:PF b At nt ct k0 pl wl cl anch v0 vb (.int .i64 (s.steps:Int)) a)
  (h:Rn w0 b A n c start caps V ws s w) (ht:s.todo=.back cc old :: r) (hcc:cc < s.caps.length) (hcl:cl=s.caps.length) (hcap:cl≤1002) (hroom:r.length≤1000000000)
  (hK:∀ (a:Act) (w':World),PF b At nt ct k0 pl wl cl anch v0 vb (.int .i64 (s.steps:Int)) a→(∃ V' ws',Rn w0 b A n c start caps V' ws' { s with todo:=r,caps:=s.caps.set cc old } w')→K a w')
  : Code.wp Tryz.prog pairsBody (Exit.then K Q) a w:=by
 have hs:=h.stk
 rw [ht] at hs
 have H:=zzA h
 have HP:=zzA (pop_any w0.heap.size b.S V r (.back cc old) w 0 0 ((cc:Int)+1) old rfl hs hroom)
 have HK:=zzA hK
 have hlt:(cc:Int) < (cl:Int):=by omega
 have HC:=zzA hcc
 obtain ⟨z,hz⟩:∃ z,(s.caps.map (Value.int .i64))[cc]?=some z:=⟨_,zzJ (by simpa using hcc)⟩
 have HZ:=zzA hz
 clear h hs ht hK hcc hcl hz
 unfold PF at ha
 iterate 224 obtain ⟨_,ha⟩:=ha
 subst ha
 conv=>arg 2;whnf
 go_wp2_with (go_at_call 36;refine HP.out.mono ?_;rintro e w1 ⟨rfl,V1,hs1,hk1,_⟩;have H1:=zzA (H.out.stacked hk1 hs1);have q1:w1.cell? ⟨b.C,cc,none⟩=some z:=(H1.out.capt.cell cc).trans HZ.out;have q2:w1.frozen? ⟨b.C,cc,none⟩=false:=H1.out.capt.frozen cc;have q3:b.C < w1.heap.size:=H1.out.capt.lt;clear hs1 hk1;simp only [])
 refine HK.out _ _ PF.of ?_
 exact ⟨_,_,(H1.out.captured cc old).later ((zzb _ _).alloc (zzF _) _)⟩
theorem round_met {w0:World} {b:Blocks} {A At:Option Addr} {n c nt ct k0 pl wl cl:Nat} {start caps:Int} {V:Value} {ws:List Nat} {s:MS} {w:World} {anch:Bool} {v0 vb:Value} {L:List InV} {t:List Int} {i k q:Nat} {r:List Job} {K:Act→World→Prop} {Q:Exit→Act→World→Prop} {a:Act} (ha:PF b At nt ct k0 pl wl cl anch v0 vb (.int .i64 (s.steps:Int)) a)
  (h:Rn w0 b A n c start caps V ws s w) (ht:s.todo=.pair i k :: r) (hroom:r.length≤1000000000) (hi:i≤20000) (hk:k≤4194304) (hk0:k0≤k) (hpl:pl≤4194305) (hq:i*pl+(k - k0)=q) (hq2:q < s.met.length) (hq3:s.met.length≤16777216) (hwl:wl=ws.length) (hm:s.met.getD q true=true)
  (hK:∀ (a:Act) (w':World),PF b At nt ct k0 pl wl cl anch v0 vb (.int .i64 (s.steps:Int)) a→(∃ V' ws',Rn w0 b A n c start caps V' ws' { s with todo:=r } w')→K a w')
  : Code.wp Tryz.prog pairsBody (Exit.then K Q) a w:=by
 have hs:=h.stk
 rw [ht] at hs
 have H:=zzA h
 have HP:=zzA (pop_any w0.heap.size b.S V r (.pair i k) w (i:Int) (k:Int) 0 0 rfl hs hroom)
 have HK:=zzA hK
 obtain ⟨x,y,-,hy,hmt,-,HXC,hql,hq6,hm1,hm2,hm3⟩:=pair_facts h hk0 hq hq2 hq3 hwl hm
 clear h hs ht hK hq hm hwl hq2
 unfold PF at ha
 iterate 224 obtain ⟨_,ha⟩:=ha
 subst ha
 conv=>arg 2;whnf
 go_wp2_with (go_at_call 36;refine HP.out.mono ?_;rintro e w1 ⟨rfl,V1,hs1,hk1,_⟩;have H1:=zzA (H.out.stacked hk1 hs1);have q1:w1.cell? ⟨b.M,q / 64,none⟩=some (.int .u64 (x:Int)):=(H1.out.met.cell (q / 64)).trans HXC.out;have q3:b.M < w1.heap.size:=H1.out.met.lt;clear hs1 hk1;simp only [])
 refine HK.out _ _ PF.of ?_
 exact ⟨_,_,H1.out.later ((zzb _ _).alloc (zzF _) _)⟩
theorem round_nop {w0:World} {b:Blocks} {A At:Option Addr} {n c nt ct k0 pl wl cl:Nat} {start caps:Int} {V:Value} {ws:List Nat} {s:MS} {w:World} {anch:Bool} {v0 vb:Value} {L:List InV} {t:List Int} {i k q:Nat} {r:List Job} {v:InV} {K:Act→World→Prop} {Q:Exit→Act→World→Prop} {a:Act} (ha:PF b At nt ct k0 pl wl cl anch v0 vb (.int .i64 (s.steps:Int)) a)
  (hh:Pq w0 b A n c k0 pl wl start caps V ws s w L i k q r v)
  (hop:v.I.op=7) (hix:0≤v.I.x)
  (hK:∀ (a:Act) (w':World),PF b At nt ct k0 pl wl cl anch v0 vb (.int .i64 ((s.steps:Int)+1)) a→(∃ V' ws',Rn w0 b A n c start caps V' ws' (eff t v.I k { s with todo:=r,met:=s.met.set q true,steps:=s.steps+1 }) w')→K a w')
  : Code.wp Tryz.prog pairsBody (Exit.then K Q) a w:=by
 obtain ⟨h,ht,hroom,hi,hk,hk0,hpl,hq,hq2,hq3,hst,hwl,hm,hP,hv⟩:=hh
 have H:=zzA h
 have HP:=zzA (pop_any w0.heap.size b.S V r (.pair i k) w (i:Int) (k:Int) 0 0 rfl (ht ▸ h.stk) (by omega))
 have HK:=zzA hK
 obtain ⟨x,y,HX,hy,hmt,hms,HXC,hql,hq6,hm1,hm2,hm3⟩:=pair_facts h hk0 hq hq2 hq3 hwl hm
 have HQ:=zzA hq2
 have HRP:=zzA hP
 have hin:i < n:=by have:=hP.len;have:=(zzK.1 hv).1;omega
 have HV:=zzA hv
 obtain ⟨ab,ao,rfl,hab⟩:=hP.at_ (by omega)
 obtain ⟨⟨iop,ix,iy,iarg,irng⟩,iA,inn,ic⟩:=v
 obtain rfl:iop=7:=hop
 simp only [] at hix
 clear h ht hK hq hm hwl hq2 hP hv
 unfold PF at ha
 iterate 224 obtain ⟨_,ha⟩:=ha
 subst ha
 conv=>arg 2;whnf
 go_wp2_with (go_at_call 36;refine HP.out.mono ?_;rintro e w1 ⟨rfl,V1,hs1,hk1,_⟩;have H1:=zzA (H.out.stacked hk1 hs1);have q1:w1.cell? ⟨b.M,q / 64,none⟩=some (.int .u64 (x:Int)):=(H1.out.met.cell (q / 64)).trans HXC.out;have q2:w1.frozen? ⟨b.M,q / 64,none⟩=false:=H1.out.met.frozen (q / 64);have q3:b.M < w1.heap.size:=H1.out.met.lt;clear hs1 hk1;simp only [])
 go_region
 clear hms
 generalize hw2:((w1.setCell ⟨b.M,q / 64,none⟩ (.int .u64 ((x ||| 2 ^ (q % 64):Nat):Int))).alloc (.cells #[.int .i64 (i:Int),.int .i64 (k:Int),.int .i64 0,.int .i64 0] 82)).drew=w2
 obtain ⟨hn,HJB,HRP2,HNOT,p0,p1,j0,j1,j4,hab2,i0,i1,i2,i3,i4⟩:=pre_facts H1.out HQ.out HX.out HRP.out hab HV.out hw2
 clear q1 q2 q3 hw2
 have HPU:=zzA (fun u (hb:Below w2.heap.size w2 u)=>push_any w0.heap.size b.S V1 r (.pair ix.toNat k) u ix (k:Int) 0 0 (by simp [jobVals];omega) (hn.out.later hb).stk hn.out.lo.S (by omega))
 clear hmt
 go_wp2_with (go_at_call 35;refine (HPU.out _ ((zzb _ _).alloc (zzF _) _)).mono ?_;rintro e w3 ⟨rfl,V2,hs2,hk2,_⟩;simp only [])
 refine HK.out _ _ PF.of ?_
 have hfin:=(hn.out.later ((zzb _ _).alloc (zzF _) (.cells #[.int .i64 7,.int .i64 ix,.int .i64 iy,.int .i64 iarg,.slice iA inn ic] 62))).stacked hk2 hs2
 exact ⟨_,_,hfin.counted (s.steps+1) s.fin⟩
theorem round_fail {w0:World} {b:Blocks} {A At:Option Addr} {n c nt ct k0 pl wl cl:Nat} {start caps:Int} {V:Value} {ws:List Nat} {s:MS} {w:World} {anch:Bool} {v0 vb:Value} {L:List InV} {t:List Int} {i k q:Nat} {r:List Job} {v:InV} {K:Act→World→Prop} {Q:Exit→Act→World→Prop} {a:Act} (ha:PF b At nt ct k0 pl wl cl anch v0 vb (.int .i64 (s.steps:Int)) a)
  (hh:Pq w0 b A n c k0 pl wl start caps V ws s w L i k q r v)
  (hop:v.I.op=6)
  (hK:∀ (a:Act) (w':World),PF b At nt ct k0 pl wl cl anch v0 vb (.int .i64 ((s.steps:Int)+1)) a→(∃ V' ws',Rn w0 b A n c start caps V' ws' (eff t v.I k { s with todo:=r,met:=s.met.set q true,steps:=s.steps+1 }) w')→K a w')
  : Code.wp Tryz.prog pairsBody (Exit.then K Q) a w:=by
 obtain ⟨h,ht,hroom,hi,hk,hk0,hpl,hq,hq2,hq3,hst,hwl,hm,hP,hv⟩:=hh
 have H:=zzA h
 have HP:=zzA (pop_any w0.heap.size b.S V r (.pair i k) w (i:Int) (k:Int) 0 0 rfl (ht ▸ h.stk) (by omega))
 have HK:=zzA hK
 obtain ⟨x,y,HX,hy,hmt,hms,HXC,hql,hq6,hm1,hm2,hm3⟩:=pair_facts h hk0 hq hq2 hq3 hwl hm
 have HQ:=zzA hq2
 have HRP:=zzA hP
 have hin:i < n:=by have:=hP.len;have:=(zzK.1 hv).1;omega
 have HV:=zzA hv
 obtain ⟨ab,ao,rfl,hab⟩:=hP.at_ (by omega)
 obtain ⟨⟨iop,ix,iy,iarg,irng⟩,iA,inn,ic⟩:=v
 obtain rfl:iop=6:=hop
 clear h ht hK hq hm hwl hq2 hP hv
 unfold PF at ha
 iterate 224 obtain ⟨_,ha⟩:=ha
 subst ha
 conv=>arg 2;whnf
 go_wp2_with (go_at_call 36;refine HP.out.mono ?_;rintro e w1 ⟨rfl,V1,hs1,hk1,_⟩;have H1:=zzA (H.out.stacked hk1 hs1);have q1:w1.cell? ⟨b.M,q / 64,none⟩=some (.int .u64 (x:Int)):=(H1.out.met.cell (q / 64)).trans HXC.out;have q2:w1.frozen? ⟨b.M,q / 64,none⟩=false:=H1.out.met.frozen (q / 64);have q3:b.M < w1.heap.size:=H1.out.met.lt;clear hs1 hk1;simp only [])
 go_region
 clear hms
 generalize hw2:((w1.setCell ⟨b.M,q / 64,none⟩ (.int .u64 ((x ||| 2 ^ (q % 64):Nat):Int))).alloc (.cells #[.int .i64 (i:Int),.int .i64 (k:Int),.int .i64 0,.int .i64 0] 82)).drew=w2
 obtain ⟨hn,HJB,HRP2,HNOT,p0,p1,j0,j1,j4,hab2,i0,i1,i2,i3,i4⟩:=pre_facts H1.out HQ.out HX.out HRP.out hab HV.out hw2
 clear q1 q2 q3 hw2
 clear hmt
 go_wp2_with fail
 refine HK.out _ _ PF.of ?_
 exact ⟨_,_,((hn.out.later ((zzb _ _).alloc (zzF _) (.cells #[.int .i64 6,.int .i64 ix,.int .i64 iy,.int .i64 iarg,.slice iA inn ic] 62))).counted (s.steps+1) s.fin)⟩
theorem round_alt {w0:World} {b:Blocks} {A At:Option Addr} {n c nt ct k0 pl wl cl:Nat} {start caps:Int} {V:Value} {ws:List Nat} {s:MS} {w:World} {anch:Bool} {v0 vb:Value} {L:List InV} {t:List Int} {i k q:Nat} {r:List Job} {v:InV} {K:Act→World→Prop} {Q:Exit→Act→World→Prop} {a:Act} (ha:PF b At nt ct k0 pl wl cl anch v0 vb (.int .i64 (s.steps:Int)) a)
  (hh:Pq w0 b A n c k0 pl wl start caps V ws s w L i k q r v)
  (hop:v.I.op=2) (hix:0≤v.I.x) (hiy:0≤v.I.y)
  (hK:∀ (a:Act) (w':World),PF b At nt ct k0 pl wl cl anch v0 vb (.int .i64 ((s.steps:Int)+1)) a→(∃ V' ws',Rn w0 b A n c start caps V' ws' (eff t v.I k { s with todo:=r,met:=s.met.set q true,steps:=s.steps+1 }) w')→K a w')
  : Code.wp Tryz.prog pairsBody (Exit.then K Q) a w:=by
 obtain ⟨h,ht,hroom,hi,hk,hk0,hpl,hq,hq2,hq3,hst,hwl,hm,hP,hv⟩:=hh
 have H:=zzA h
 have HP:=zzA (pop_any w0.heap.size b.S V r (.pair i k) w (i:Int) (k:Int) 0 0 rfl (ht ▸ h.stk) (by omega))
 have HK:=zzA hK
 obtain ⟨x,y,HX,hy,hmt,hms,HXC,hql,hq6,hm1,hm2,hm3⟩:=pair_facts h hk0 hq hq2 hq3 hwl hm
 have HQ:=zzA hq2
 have HRP:=zzA hP
 have hin:i < n:=by have:=hP.len;have:=(zzK.1 hv).1;omega
 have HV:=zzA hv
 obtain ⟨ab,ao,rfl,hab⟩:=hP.at_ (by omega)
 obtain ⟨⟨iop,ix,iy,iarg,irng⟩,iA,inn,ic⟩:=v
 obtain rfl:iop=2:=hop
 simp only [] at hix hiy
 clear h ht hK hq hm hwl hq2 hP hv
 unfold PF at ha
 iterate 224 obtain ⟨_,ha⟩:=ha
 subst ha
 conv=>arg 2;whnf
 go_wp2_with (go_at_call 36;refine HP.out.mono ?_;rintro e w1 ⟨rfl,V1,hs1,hk1,_⟩;have H1:=zzA (H.out.stacked hk1 hs1);have q1:w1.cell? ⟨b.M,q / 64,none⟩=some (.int .u64 (x:Int)):=(H1.out.met.cell (q / 64)).trans HXC.out;have q2:w1.frozen? ⟨b.M,q / 64,none⟩=false:=H1.out.met.frozen (q / 64);have q3:b.M < w1.heap.size:=H1.out.met.lt;clear hs1 hk1;simp only [])
 go_region
 clear hms
 generalize hw2:((w1.setCell ⟨b.M,q / 64,none⟩ (.int .u64 ((x ||| 2 ^ (q % 64):Nat):Int))).alloc (.cells #[.int .i64 (i:Int),.int .i64 (k:Int),.int .i64 0,.int .i64 0] 82)).drew=w2
 obtain ⟨hn,HJB,HRP2,HNOT,p0,p1,j0,j1,j4,hab2,i0,i1,i2,i3,i4⟩:=pre_facts H1.out HQ.out HX.out HRP.out hab HV.out hw2
 clear q1 q2 q3 hw2
 have HPU:=zzA (fun u (hb:Below w2.heap.size w2 u)=>push_any w0.heap.size b.S V1 r (.pair iy.toNat k) u iy (k:Int) 0 0 (by simp [jobVals];omega) (hn.out.later hb).stk hn.out.lo.S (by omega))
 have HPU2:=zzA (fun V2 u (hb:Stk u w0.heap.size b.S V2 (.pair iy.toNat k :: r))=>push_any w0.heap.size b.S V2 (.pair iy.toNat k :: r) (.pair ix.toNat k) u ix (k:Int) 0 0 (by simp [jobVals];omega) hb hn.out.lo.S (by simp;omega))
 clear hmt
 have hbi:Below w2.heap.size w2 (w2.alloc (.cells #[.int .i64 2,.int .i64 ix,.int .i64 iy,.int .i64 iarg,.slice iA inn ic] 62)):=(zzb _ _).alloc (zzF _) _
 have HNEW:=zzA (zyI w2 62 [.int .i64 2,.int .i64 ix,.int .i64 iy,.int .i64 iarg,.slice iA inn ic])
 go_wp2_with (first | (go_at_call 35;refine (HPU2.out V2 _ H3.out.stk).mono ?_;rintro e w4 ⟨rfl,V3,hs3,hk3,_⟩;have H4:=zzA (H3.out.stacked hk3 hs3);clear hs3 hk3;simp only []) | (go_at_call 35;refine (HPU.out _ hbi).mono ?_;rintro e w3 ⟨rfl,V2,hs2,hk2,_⟩;have H3:=zzA ((hn.out.later hbi).stacked hk2 hs2);have B1:=(HJB.out.below hbi j4).kept hk2 (HNOT.out _ (zzF _));have B2:=HNEW.out.kept hk2 (HNOT.out _ (zzo j4));have d1:w3.cell? ⟨w1.heap.size,1,none⟩=some (.int .i64 (k:Int)):=B1.cell 1;have d2:w3.cell? ⟨w2.heap.size,1,none⟩=some (.int .i64 ix):=B2.cell 1;clear hs2 hk2 B1 B2;simp only []))
 refine HK.out _ _ PF.of ?_
 exact ⟨_,_,(H4.out.counted (s.steps+1) s.fin)⟩
end Go.Proofs.YtgkclnmmjedmkaaGreat
