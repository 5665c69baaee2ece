/- simplify.reckon: the form of a tree that may be. -/
import Derived.Deep.RegionHeldLaw
import Derived.StillTailTactics
import Derived.Test.YtgkclnmmjedmkaaGreatP11
import Derived.Test.YtgkclnmmjedmkaaGreatP38
set_option maxRecDepth 100000
set_option maxHeartbeats 2000000
namespace Go.Proofs.YtgkclnmmjedmkaaGreat
open Go.RowKit Tr
theorem int_eq {a b:Int} (h:a=b):Value.int .i64 a=Value.int .i64 b:=by rw [h]
def RK (t:Ta):Prop:=∀ (S:Nat→Prop) (w:World),RT w S t→(∀ b,S b→b < w.heap.size) →
  Calls Tryz.prog 42 #[t.val] w fun e w'=>e=.returned (fv (reckonS t.tr))∧Below w.heap.size w w'
theorem reck_start (w:World) (k:Int) (r:List (Int × Int)) (ra:Option Addr) (rc:Nat) (ast:Int) (l:List Ta) (sa:Option Addr) (sc:Nat) (mn mx:Int) (z:Bool) (ix:Int) (nm:ByteArray) {W:World} (hW:W=((w.alloc (.cells #[.int .i64 k,.slice ra r.length rc,.int .i64 ast,.slice sa l.length sc,.int .i64 mn,.int .i64 mx,.bool z,.int .i64 ix,.string nm] 25)).alloc (.cells #[.int .i64 0,.int .i64 0,.int .i64 0,.int .i64 0] 93))) :
  Below w.heap.size w W∧Blk W w.heap.size 25 [.int .i64 k,.slice ra r.length rc,.int .i64 ast,.slice sa l.length sc,.int .i64 mn,.int .i64 mx,.bool z,.int .i64 ix,.string nm]∧Blk W (w.heap.size+1) 93 [.int .i64 0,.int .i64 0,.int .i64 0,.int .i64 0]:=by
 refine hW ▸ ⟨two_below w _ _,(zyI w 25 [.int .i64 k,.slice ra r.length rc,.int .i64 ast,.slice sa l.length sc,.int .i64 mn,.int .i64 mx,.bool z,.int .i64 ix,.string nm]).alloc _,two_blk w _ 93 [.int .i64 0,.int .i64 0,.int .i64 0,.int .i64 0]⟩
theorem reck_leaf (k:Int) (r:List (Int × Int)) (ra:Option Addr) (rc:Nat) (ast:Int) (l:List Ta) (sa:Option Addr) (sc:Nat) (mn mx:Int) (z:Bool) (ix:Int) (nm:ByteArray) (S:Nat→Prop) (w:World) (h:RT w S (.mk k r ra rc ast l sa sc mn mx z ix nm)) (hS:∀ b,S b→b < w.heap.size) (h7:(k==7)=false) (h4:(k==4)=false) (h5:(k==5)=false) (h6:(k==6)=false) :
  Calls Tryz.prog 42 #[(Ta.mk k r ra rc ast l sa sc mn mx z ix nm).val] w fun e w'=>e=.returned (fv (⟨k,1,1,0⟩))∧Below w.heap.size w w':=by
 obtain ⟨⟨hR,hrl,hll⟩,hN,hL⟩:=h.parts
 have HS:=zzA (reck_start w k r ra rc ast l sa sc mn mx z ix nm rfl)
 clear h hR
 have hsc:=hN.1
 have hsc2:=hN.2.1
 simp only [Ta.val,Ta.vals,fv,fvals]
 clear hsc hsc2 hN hL hS hrl hll
 have s0:=HS.out.2.2.frozen 0
 have s1:=HS.out.2.2.frozen 1
 have s2:=HS.out.2.2.frozen 2
 have s3:=HS.out.2.2.frozen 3
 have s9:=HS.out.2.2.lt
 go_enter Tryz.func42,Tryz.ntmps42
 go_wp2_with fail
 refine zzm (form_ret rfl _ _ (w.heap.size+1) (.int .i64 k) (.int .i64 1) (.int .i64 1) (.int .i64 0) rfl (two_blk w _ 93 _)) rfl ?_
 exact ⟨rfl,two_below w _ _⟩
theorem reck_group (k:Int) (r:List (Int × Int)) (ra:Option Addr) (rc:Nat) (ast:Int) (l:List Ta) (sa:Option Addr) (sc:Nat) (mn mx:Int) (z:Bool) (ix:Int) (nm:ByteArray) (S:Nat→Prop) (w:World) (h:RT w S (.mk k r ra rc ast l sa sc mn mx z ix nm)) (hS:∀ b,S b→b < w.heap.size) (h7:(k==7)=true) (hl:l.length=1) (hih:∀ u∈l,RK u) (hF1:∀ u∈l,FB1 (reckonS u.tr)) :
  Calls Tryz.prog 42 #[(Ta.mk k r ra rc ast l sa sc mn mx z ix nm).val] w fun e w'=>e=.returned (fv (aboveF 7 ((l.map fun u=>reckonS u.tr).headD ⟨1,1,1,0⟩)))∧Below w.heap.size w w':=by
 obtain ⟨⟨hR,hrl,hll⟩,hN,hL⟩:=h.parts
 have HS:=zzA (reck_start w k r ra rc ast l sa sc mn mx z ix nm rfl)
 clear h hR
 have hsc:=hN.1
 have hsc2:=hN.2.1
 obtain ⟨b,off,rfl,hSb,_⟩:=hN.2.2.2.2 (by omega)
 have hlt0:(0:Int) < (l.length:Int):=by omega
 obtain ⟨u,hu⟩:∃ u,l[0]?=some u:=⟨_,zzJ (by omega)⟩
 have hum:u∈l:=zzL hu
 have hhd:(l.map fun u=>reckonS u.tr).headD ⟨1,1,1,0⟩=reckonS u.tr:=by
  cases l with
  | nil=>simp at hu
  | cons v l=>simp at hu;subst hu;rfl
 have hcell:∀ j,j < 9→((w.alloc (.cells #[.int .i64 k,.slice ra r.length rc,.int .i64 ast,.slice (some ⟨b,off,none⟩) l.length sc,.int .i64 mn,.int .i64 mx,.bool z,.int .i64 ix,.string nm] 25)).alloc (.cells #[.int .i64 0,.int .i64 0,.int .i64 0,.int .i64 0] 93)).cell? ⟨b,off+j,none⟩=u.vals[j]?:=fun j hj=>by
  have:=hN.node (j:=0) (t:=u) hu hj
  rw [Nat.zero_mul,zzw] at this
  rw [←this]
  exact HS.out.1.cell (p:=⟨b,off+j,none⟩) (hS b hSb)
 have hRK:=hih u hum S ((w.alloc (.cells #[.int .i64 k,.slice ra r.length rc,.int .i64 ast,.slice (some ⟨b,off,none⟩) l.length sc,.int .i64 mn,.int .i64 mx,.bool z,.int .i64 ix,.string nm] 25)).alloc (.cells #[.int .i64 0,.int .i64 0,.int .i64 0,.int .i64 0] 93)) ((hL u hum).below hS HS.out.1) (fun b hb=>zzQ (hS b hb) HS.out.1.size)
 have hF:=hF1 u hum
 rw [hhd]
 clear hhd hl hlt0
 have hlt0:(0:Int) < (l.length:Int):=by have:=zzK.1 hu;obtain ⟨h,_⟩:=this;omega
 obtain ⟨f,hf⟩:∃ f,f=reckonS u.tr:=⟨_,rfl⟩
 rw [←hf] at hRK hF ⊢
 clear hf
 cases u with
 | mk k' r' ra' rc' a' l' sa' sc' n' m' z' i' s' =>
 simp only [Ta.vals] at hcell
 simp only [Ta.val,Ta.vals] at hRK
 have c0:=hcell 0 (by omega)
 have c1:=hcell 1 (by omega)
 have c2:=hcell 2 (by omega)
 have c3:=hcell 3 (by omega)
 have c4:=hcell 4 (by omega)
 have c5:=hcell 5 (by omega)
 have c6:=hcell 6 (by omega)
 have c7:=hcell 7 (by omega)
 have c8:=hcell 8 (by omega)
 simp only [zzR,zzX,Nat.add_zero] at c0 c1 c2 c3 c4 c5 c6 c7 c8
 clear hcell hu hum
 have hA:=fun v=>zzA (above_any 7 f hF.1 v)
 obtain ⟨g,hg⟩:∃ g,g=aboveF 7 f:=⟨_,rfl⟩
 rw [←hg] at hA ⊢
 clear hg
 have HIN:=zzA hRK
 clear hRK hih hF1 hL hS hN
 simp only [Ta.val,Ta.vals,fv,fvals] at HIN hA ⊢
 go_enter Tryz.func42,Tryz.ntmps42
 go_wp2_with fail
 refine HIN.out.mono ?_
 rintro e w3 ⟨rfl,hb3⟩
 have HB3:=zzA (HS.out.1.trans (hb3.mono HS.out.1.size))
 have HR3:=zzA (HS.out.2.2.below hb3 HS.out.2.2.lt)
 clear hb3
 simp only []
 go_wp2_with fail
 refine (hA _).out.mono ?_
 rintro e w4 ⟨rfl,hb4⟩
 have HB4:=zzA (HB3.out.trans (hb4.mono HB3.out.size))
 have HR4:=zzA (HR3.out.below hb4 HR3.out.lt)
 clear hb4
 simp only []
 have q0:w4.cell? ⟨w.heap.size+1,0,none⟩=some (.int .i64 0):=HR4.out.cell 0
 have s0:=HR4.out.frozen 0
 have q1:w4.cell? ⟨w.heap.size+1,1,none⟩=some (.int .i64 0):=HR4.out.cell 1
 have s1:=HR4.out.frozen 1
 have q2:w4.cell? ⟨w.heap.size+1,2,none⟩=some (.int .i64 0):=HR4.out.cell 2
 have s2:=HR4.out.frozen 2
 have q3:w4.cell? ⟨w.heap.size+1,3,none⟩=some (.int .i64 0):=HR4.out.cell 3
 have s3:=HR4.out.frozen 3
 have s9:=HR4.out.lt
 go_wp2_with fail
 refine zzm (form_ret rfl _ _ (w.heap.size+1) (.int .i64 g.kind) (.int .i64 g.size) (.int .i64 g.deep) (.int .i64 g.subs) rfl ((((HR4.out.set_ 0 (.int .i64 g.kind)).set_ 1 (.int .i64 g.size)).set_ 2 (.int .i64 g.deep)).set_ 3 (.int .i64 g.subs))) rfl ?_
 refine ⟨rfl,zyH HB4.out ((((zyG ⟨w.heap.size+1,0,none⟩ _).trans (zyG ⟨w.heap.size+1,1,none⟩ _)).trans (zyG ⟨w.heap.size+1,2,none⟩ _)).trans (zyG ⟨w.heap.size+1,3,none⟩ _)) ?_ HB4.out.size⟩
 intro b hb;simp at hb;omega
theorem kept4 (w:World) (g:Nat) (a b c d:Value):Kept w ((((w.setCell ⟨g,0,none⟩ a).setCell ⟨g,1,none⟩ b).setCell ⟨g,2,none⟩ c).setCell ⟨g,3,none⟩ d) [g] :=
 ((((zyG ⟨g,0,none⟩ _).trans (zyG ⟨g,1,none⟩ _)).trans (zyG ⟨g,2,none⟩ _)).trans (zyG ⟨g,3,none⟩ _)).more (by intro k hk;simp at hk;exact .inl (by simp [hk]))
theorem reck_rep (k:Int) (r:List (Int × Int)) (ra:Option Addr) (rc:Nat) (ast:Int) (l:List Ta) (sa:Option Addr) (sc:Nat) (mn mx:Int) (z:Bool) (ix:Int) (nm:ByteArray) (S:Nat→Prop) (w:World) (h:RT w S (.mk k r ra rc ast l sa sc mn mx z ix nm)) (hS:∀ b,S b→b < w.heap.size) (h7:(k==7)=false) (h4:(k==4)=false) (h5:(k==5)=false) (h6:(k==6)=true) (hl:l.length=1) (hmn:0≤mn) (hmn1:mn≤1000) (hmx:mx≤1000) (hih:∀ u∈l,RK u) (hF1:∀ u∈l,FB1 (reckonS u.tr)) :
  Calls Tryz.prog 42 #[(Ta.mk k r ra rc ast l sa sc mn mx z ix nm).val] w fun e w'=>e=.returned (fv (timesF ((l.map fun u=>reckonS u.tr).headD ⟨1,1,1,0⟩) mn mx))∧Below w.heap.size w w':=by
 obtain ⟨⟨hR,hrl,hll⟩,hN,hL⟩:=h.parts
 have HS:=zzA (reck_start w k r ra rc ast l sa sc mn mx z ix nm rfl)
 clear h hR
 have hsc:=hN.1
 have hsc2:=hN.2.1
 obtain ⟨b,off,rfl,hSb,_⟩:=hN.2.2.2.2 (by omega)
 have hlt0:(0:Int) < (l.length:Int):=by omega
 obtain ⟨u,hu⟩:∃ u,l[0]?=some u:=⟨_,zzJ (by omega)⟩
 have hum:u∈l:=zzL hu
 have hhd:(l.map fun u=>reckonS u.tr).headD ⟨1,1,1,0⟩=reckonS u.tr:=by
  cases l with
  | nil=>simp at hu
  | cons v l=>simp at hu;subst hu;rfl
 have hcell:∀ W,Below w.heap.size w W→∀ j,j < 9→W.cell? ⟨b,off+j,none⟩=u.vals[j]?:=fun W hW j hj=>by
  have:=hN.node (j:=0) (t:=u) hu hj
  rw [Nat.zero_mul,zzw] at this
  rw [←this]
  exact hW.cell (p:=⟨b,off+j,none⟩) (hS b hSb)
 have hRK:=hih u hum S ((w.alloc (.cells #[.int .i64 k,.slice ra r.length rc,.int .i64 ast,.slice (some ⟨b,off,none⟩) l.length sc,.int .i64 mn,.int .i64 mx,.bool z,.int .i64 ix,.string nm] 25)).alloc (.cells #[.int .i64 0,.int .i64 0,.int .i64 0,.int .i64 0] 93)).drew ((hL u hum).below hS (bdrewN HS.out.1 1)) (fun b hb=>zzQ (hS b hb) HS.out.1.size)
 have hF:=hF1 u hum
 rw [hhd]
 clear hhd hl hlt0
 have hlt0:(0:Int) < (l.length:Int):=by have:=zzK.1 hu;obtain ⟨h,_⟩:=this;omega
 obtain ⟨f,hf⟩:∃ f,f=reckonS u.tr:=⟨_,rfl⟩
 rw [←hf] at hRK hF ⊢
 clear hf
 cases u with
 | mk k' r' ra' rc' a' l' sa' sc' n' m' z' i' s' =>
 simp only [Ta.vals] at hcell
 simp only [Ta.val,Ta.vals] at hRK
 have hk:∀ W,Below w.heap.size w W→Blk W w.heap.size 25 [.int .i64 k,.slice ra r.length rc,.int .i64 ast,.slice (some ⟨b,off,none⟩) l.length sc,.int .i64 mn,.int .i64 mx,.bool z,.int .i64 ix,.string nm]→(W.cell? ⟨w.heap.size,3,none⟩=some (.slice (some ⟨b,off,none⟩) l.length sc)∧W.cell? ⟨w.heap.size,4,none⟩=some (.int .i64 mn)∧W.cell? ⟨w.heap.size,5,none⟩=some (.int .i64 mx)∧W.cell? ⟨b,off,none⟩=some (.int .i64 k')∧W.cell? ⟨b,off+1,none⟩=some (.slice ra' r'.length rc')∧W.cell? ⟨b,off+2,none⟩=some (.int .i64 a')∧W.cell? ⟨b,off+3,none⟩=some (.slice sa' l'.length sc')∧W.cell? ⟨b,off+4,none⟩=some (.int .i64 n')∧W.cell? ⟨b,off+5,none⟩=some (.int .i64 m')∧W.cell? ⟨b,off+6,none⟩=some (.bool z')∧W.cell? ⟨b,off+7,none⟩=some (.int .i64 i')∧W.cell? ⟨b,off+8,none⟩=some (.string s')):=fun W hb hn =>
  ⟨hn.cell 3,hn.cell 4,hn.cell 5,hcell W hb 0 (by omega),hcell W hb 1 (by omega),hcell W hb 2 (by omega),hcell W hb 3 (by omega),hcell W hb 4 (by omega),hcell W hb 5 (by omega),hcell W hb 6 (by omega),hcell W hb 7 (by omega),hcell W hb 8 (by omega)⟩
 have HK:=zzA hk
 clear hk hcell hu hum
 have hA:=fun v=>zzA (times_any f v hF mn mx hmn hmn1 hmx)
 obtain ⟨g,hg⟩:∃ g,g=timesF f mn mx:=⟨_,rfl⟩
 rw [←hg] at hA ⊢
 clear hg
 have HIN:=zzA hRK
 clear hRK hih hF1 hL hS hN
 simp only [Ta.val,Ta.vals,fv,fvals] at HIN hA ⊢
 go_enter Tryz.func42,Tryz.ntmps42
 go_wp2_with fail
 generalize ((w.alloc (.cells #[.int .i64 k,.slice ra r.length rc,.int .i64 ast,.slice (some ⟨b,off,none⟩) l.length sc,.int .i64 mn,.int .i64 mx,.bool z,.int .i64 ix,.string nm] 25)).alloc (.cells #[.int .i64 0,.int .i64 0,.int .i64 0,.int .i64 0] 93))=w2 at *
 go_region_held_law (fun w'=>w'.cell? ⟨w.heap.size,3,none⟩=some (.slice (some ⟨b,off,none⟩) l.length sc)∧w'.cell? ⟨w.heap.size,4,none⟩=some (.int .i64 mn)∧w'.cell? ⟨w.heap.size,5,none⟩=some (.int .i64 mx)∧w'.cell? ⟨b,off,none⟩=some (.int .i64 k')∧w'.cell? ⟨b,off+1,none⟩=some (.slice ra' r'.length rc')∧w'.cell? ⟨b,off+2,none⟩=some (.int .i64 a')∧w'.cell? ⟨b,off+3,none⟩=some (.slice sa' l'.length sc')∧w'.cell? ⟨b,off+4,none⟩=some (.int .i64 n')∧w'.cell? ⟨b,off+5,none⟩=some (.int .i64 m')∧w'.cell? ⟨b,off+6,none⟩=some (.bool z')∧w'.cell? ⟨b,off+7,none⟩=some (.int .i64 i')∧w'.cell? ⟨b,off+8,none⟩=some (.string s')) (first | exact HK.out _ (bdrewN HS.out.1 1) HS.out.2.1.drew | exact HK.out _ HB3.out HT3.out | exact HK.out _ HB4.out HT4.out | exact HK.out _ HB5.out HT5.out) (first
  | (go_at_call 42;refine HIN.out.mono ?_;rintro e w3 ⟨rfl,hb3⟩;have HB3:=zzA ((bdrewN HS.out.1 1).trans (hb3.mono HS.out.1.size));have HR3:=zzA (HS.out.2.2.drew.below hb3 HS.out.2.2.lt);have HT3:=zzA (HS.out.2.1.drew.below hb3 HS.out.2.1.lt);clear hb3;simp only [])
  | (go_at_call 69;refine (hA _).out.mono ?_;rintro e w4 ⟨rfl,hb4⟩;have HB4:=zzA (HB3.out.trans (hb4.mono HB3.out.size));have HR4:=zzA (HR3.out.below hb4 HR3.out.lt);have HT4:=zzA (HT3.out.below hb4 HT3.out.lt);clear hb4;have q0:w4.cell? ⟨w.heap.size+1,0,none⟩=some (.int .i64 0):=HR4.out.cell 0;have s0:=HR4.out.frozen 0;have q1:w4.cell? ⟨w.heap.size+1,1,none⟩=some (.int .i64 0):=HR4.out.cell 1;have s1:=HR4.out.frozen 1;have q2:w4.cell? ⟨w.heap.size+1,2,none⟩=some (.int .i64 0):=HR4.out.cell 2;have s2:=HR4.out.frozen 2;have q3:w4.cell? ⟨w.heap.size+1,3,none⟩=some (.int .i64 0):=HR4.out.cell 3;have s3:=HR4.out.frozen 3;have s9:=HR4.out.lt;have hk4:=kept4 w4 (w.heap.size+1) (.int .i64 g.kind) (.int .i64 g.size) (.int .i64 g.deep) (.int .i64 g.subs);have HB5:=zzA (zyH HB4.out hk4 (by intro k hk;simp at hk;omega) HB4.out.size);have HT5:=zzA (HT4.out.kept hk4 (by simp));clear hk4;simp only []))
 go_wp2_with fail
 refine zzm (form_ret rfl _ _ (w.heap.size+1) (.int .i64 g.kind) (.int .i64 g.size) (.int .i64 g.deep) (.int .i64 g.subs) rfl ((((HR4.out.set_ 0 (.int .i64 g.kind)).set_ 1 (.int .i64 g.size)).set_ 2 (.int .i64 g.deep)).set_ 3 (.int .i64 g.subs))) rfl ?_
 refine ⟨rfl,zyH HB4.out ((((zyG ⟨w.heap.size+1,0,none⟩ _).trans (zyG ⟨w.heap.size+1,1,none⟩ _)).trans (zyG ⟨w.heap.size+1,2,none⟩ _)).trans (zyG ⟨w.heap.size+1,3,none⟩ _)) ?_ HB4.out.size⟩
 intro b hb;simp at hb;omega
structure RS (w:World) (cs:List Value) (wr:World):Prop where
 below:Below w.heap.size w wr
 node:Blk wr w.heap.size 25 cs
 res:Blk wr (w.heap.size+1) 93 [.int .i64 0,.int .i64 0,.int .i64 0,.int .i64 0]
structure RJ (w:World) (cs:List Value) (j:Jn) (wr:World):Prop where
 rs:RS w cs wr
 jn:Blk wr (w.heap.size+1+1) 132 (jvals j)
theorem RS.bel {w:World} {cs:List Value} {wr wq:World} (h:RS w cs wr) (hb:Below wr.heap.size wr wq):RS w cs wq :=
 ⟨h.below.trans (hb.mono h.below.size),h.node.below hb h.node.lt,h.res.below hb h.res.lt⟩
theorem RJ.bel {w:World} {cs:List Value} {j:Jn} {wr wq:World} (h:RJ w cs j wr) (hb:Below wr.heap.size wr wq):RJ w cs j wq :=
 ⟨h.rs.bel hb,h.jn.below hb h.jn.lt⟩
theorem RJ.put {w:World} {cs:List Value} {j j':Jn} {wr wq:World} (h:RJ w cs j wr) (hb:Kept wr wq [w.heap.size+1+1]) (hj:Blk wq (w.heap.size+1+1) 132 (jvals j')):RJ w cs j' wq :=
 ⟨⟨zyH h.rs.below hb (by intro k hk;simp at hk;omega) h.rs.below.size,h.rs.node.kept hb (by simp;omega),h.rs.res.kept hb (by simp)⟩,hj⟩
theorem foldl_take {α β:Type} (f:β→α→β) (a:β) {l:List α} {i:Nat} {u:α} (h:l[i]?=some u):(l.take (i+1)).foldl f a=f ((l.take i).foldl f a) u:=by
 rw [zyD,h,List.foldl_append];rfl
theorem ab_foldl {l:List Tr.Form}:∀ {p:Int × Int},AB p→(∀ f∈l,FB1 f)→AB (l.foldl altPutF p):=by
 induction l with
 | nil=>intro p hp _;exact hp
 | cons f l ih=>intro p hp hl;exact ih (ab_put hp (hl f (by simp))) fun g hg=>hl g (by simp [hg])
theorem reck_cat (k:Int) (r:List (Int × Int)) (ra:Option Addr) (rc:Nat) (ast:Int) (l:List Ta) (sa:Option Addr) (sc:Nat) (mn mx:Int) (z:Bool) (ix:Int) (nm:ByteArray) (S:Nat→Prop) (w:World) (h:RT w S (.mk k r ra rc ast l sa sc mn mx z ix nm)) (hS:∀ b,S b→b < w.heap.size) (h7:(k==7)=false) (h4:(k==4)=true) (hih:∀ u∈l,RK u) (hF1:∀ u∈l,FB1 (reckonS u.tr)) :
  Calls Tryz.prog 42 #[(Ta.mk k r ra rc ast l sa sc mn mx z ix nm).val] w fun e w'=>e=.returned (fv (jform ((l.map fun u=>reckonS u.tr).foldl (fun j f=>jput j f 1) j0)))∧Below w.heap.size w w':=by
 obtain ⟨⟨hR,hrl,hll⟩,hN,hL⟩:=h.parts
 have HS:=zzA (reck_start w k r ra rc ast l sa sc mn mx z ix nm rfl)
 clear h hR
 have hsc:=hN.1
 have hsc2:=hN.2.1
 have hJB:∀ i,JB1 (((l.map fun u=>reckonS u.tr).take i).foldl (fun j f=>jput j f 1) j0):=fun i=>fb1_joins jb1_zero fun f hf=>by
  obtain ⟨u,hu,rfl⟩:=zzp.1 (List.mem_of_mem_take hf)
  exact hF1 u hu
 have hST:∀ i u,l[i]?=some u→((l.map fun u=>reckonS u.tr).take (i+1)).foldl (fun j f=>jput j f 1) j0=jput (((l.map fun u=>reckonS u.tr).take i).foldl (fun j f=>jput j f 1) j0) (reckonS u.tr) 1:=fun i u hu=>foldl_take _ _ (by rw [zza,hu];rfl)
 have hEN:((l.map fun u=>reckonS u.tr).take l.length).foldl (fun j f=>jput j f 1) j0=(l.map fun u=>reckonS u.tr).foldl (fun j f=>jput j f 1) j0:=by rw [List.take_of_length_le (by simp)]
 rw [←hEN]
 clear hEN
 have h0:j0=((l.map fun u=>reckonS u.tr).take 0).foldl (fun j f=>jput j f 1) j0:=rfl
 obtain ⟨jj,hjj⟩:∃ jj:Nat→Jn,jj=fun i=>((l.map fun u=>reckonS u.tr).take i).foldl (fun j f=>jput j f 1) j0:=⟨_,rfl⟩
 simp only [show ∀ i,((l.map fun u=>reckonS u.tr).take i).foldl (fun j f=>jput j f 1) j0=jj i from fun i=>by rw [hjj]] at hJB hST h0 ⊢
 clear hjj
 obtain ⟨g,hg⟩:∃ g,g=jform (jj l.length):=⟨_,rfl⟩
 rw [←hg]
 have HG:=zzA hg
 clear hg
 simp only [Ta.val,Ta.vals,fv,fvals]
 go_enter Tryz.func42,Tryz.ntmps42
 go_wp2_with fail
 have HR0:=zzA (show RJ w [.int .i64 k,.slice ra r.length rc,.int .i64 ast,.slice sa l.length sc,.int .i64 mn,.int .i64 mx,.bool z,.int .i64 ix,.string nm] (jj 0) (((w.alloc (.cells #[.int .i64 k,.slice ra r.length rc,.int .i64 ast,.slice sa l.length sc,.int .i64 mn,.int .i64 mx,.bool z,.int .i64 ix,.string nm] 25)).alloc (.cells #[.int .i64 0,.int .i64 0,.int .i64 0,.int .i64 0] 93)).alloc (.cells #[.int .i64 0,.int .i64 0,.int .i64 0,.int .i64 0,.int .i64 0,.int .i64 0,.int .i64 0] 132)) from by
  rw [←h0]
  refine ⟨⟨HS.out.1.alloc (by simp;omega) _,HS.out.2.1.alloc _,HS.out.2.2.alloc _⟩,?_⟩
  have:=zyI ((w.alloc (.cells #[.int .i64 k,.slice ra r.length rc,.int .i64 ast,.slice sa l.length sc,.int .i64 mn,.int .i64 mx,.bool z,.int .i64 ix,.string nm] 25)).alloc (.cells #[.int .i64 0,.int .i64 0,.int .i64 0,.int .i64 0] 93)) 132 [.int .i64 0,.int .i64 0,.int .i64 0,.int .i64 0,.int .i64 0,.int .i64 0,.int .i64 0]
  rw [show (((w.alloc (.cells #[.int .i64 k,.slice ra r.length rc,.int .i64 ast,.slice sa l.length sc,.int .i64 mn,.int .i64 mx,.bool z,.int .i64 ix,.string nm] 25)).alloc (.cells #[.int .i64 0,.int .i64 0,.int .i64 0,.int .i64 0] 93))).heap.size=w.heap.size+1+1 from by simp] at this
  exact this)
 generalize (((w.alloc (.cells #[.int .i64 k,.slice ra r.length rc,.int .i64 ast,.slice sa l.length sc,.int .i64 mn,.int .i64 mx,.bool z,.int .i64 ix,.string nm] 25)).alloc (.cells #[.int .i64 0,.int .i64 0,.int .i64 0,.int .i64 0] 93)).alloc (.cells #[.int .i64 0,.int .i64 0,.int .i64 0,.int .i64 0,.int .i64 0,.int .i64 0,.int .i64 0] 132))=w3 at *
 have HIH:=zzA hih
 have HN:=zzA hN
 have HL:=zzA hL
 have HSS:=zzA hS
 have HF1:=zzA hF1
 have HJB:=zzA hJB
 have HST:=zzA hST
 clear hih hN hL hS hF1 hJB hST HS h0
 go_loopw [26] (fun iv wr=>∃ (i:Nat),i≤l.length∧iv=.int .i64 (i:Int)∧RJ w [.int .i64 k,.slice ra r.length rc,.int .i64 ast,.slice sa l.length sc,.int .i64 mn,.int .i64 mx,.bool z,.int .i64 ix,.string nm] (jj i) wr) (fun iv _=>l.length - (intOf iv).toNat)
 case atStart=>exact ⟨0,zzZ _,rfl,HR0.out⟩
 case round =>
  obtain ⟨i,hi,rfl,hr⟩:=hrel
  have HR:=zzA hr
  clear hr
  by_cases hlt:i < l.length
  ·have hlt2:(i:Int) < (l.length:Int):=by omega
   obtain ⟨b,off,rfl,hSb,_⟩:=HN.out.2.2.2.2 (by omega)
   obtain ⟨u,hu⟩:∃ u,l[i]?=some u:=⟨_,zzJ hlt⟩
   have hum:u∈l:=zzL hu
   have hbb:=HSS.out b hSb
   have hcell:∀ j,j < 9→wr.cell? ⟨b,off+i*9+j,none⟩=u.vals[j]?:=fun j hj=>by
    rw [zzy]
    rw [←HN.out.node hu hj]
    exact (HR.out.rs.below.cell (p:=⟨b,off+(i*9+j),none⟩) hbb)
   have hba:Below wr.heap.size wr (wr.alloc (.cells u.vals.toArray 25)):=(zzb _ _).alloc (zzF _) _
   have HR1:=zzA (HR.out.bel hba)
   have hRK:=HIH.out u hum S (wr.alloc (.cells u.vals.toArray 25)) ((HL.out u hum).below HSS.out HR1.out.rs.below) (fun b hb=>zzQ (HSS.out b hb) HR1.out.rs.below.size)
   have hF:=HF1.out u hum
   have hst:=HST.out i u hu
   have HJ:=zzA (HJB.out i)
   clear hba hbb
   obtain ⟨f,hf⟩:∃ f,f=reckonS u.tr:=⟨_,rfl⟩
   rw [←hf] at hRK hF hst
   clear hf
   cases u with
   | mk k' r' ra' rc' a' l' sa' sc' n' m' z' i' s' =>
   simp only [Ta.vals] at hcell HR1
   simp only [Ta.val,Ta.vals] at hRK
   have c0:=hcell 0 (by omega)
   have c1:=hcell 1 (by omega)
   have c2:=hcell 2 (by omega)
   have c3:=hcell 3 (by omega)
   have c4:=hcell 4 (by omega)
   have c5:=hcell 5 (by omega)
   have c6:=hcell 6 (by omega)
   have c7:=hcell 7 (by omega)
   have c8:=hcell 8 (by omega)
   simp only [zzR,zzX,Nat.add_zero] at c0 c1 c2 c3 c4 c5 c6 c7 c8
   have HIN:=zzA hRK
   have HSTI:=zzA hst
   have HFI:=zzA hF
   clear hcell hu hum hRK hst hF
   go_wp2_with fail
   refine HIN.out.mono ?_
   rintro e w5 ⟨rfl,hb5⟩
   have HR5:=zzA (HR1.out.bel hb5)
   clear hb5 HR1 HIN c0 c1 c2 c3 c4 c5 c6 c7 c8
   simp only [fv]
   go_wp2_with fail
   refine (jput_any (w.heap.size+1+1) (jj i) f 1 w5 HR5.out.jn HJ.out.1 HFI.out.1 (by decide) (by decide)).mono ?_
   rintro e w6 ⟨rfl,hj6,hk6⟩
   have HR6:=zzA (HR5.out.put hk6 hj6)
   clear hj6 hk6
   simp only []
   go_wp2_with fail
   go_roundw
   case rel=>exact ⟨i+1,by omega,by go_num,HSTI.out ▸ HR6.out⟩
   case measure=>simp [intOf];omega
  ·obtain rfl:i=l.length:=by omega
   have hlt2:¬((l.length:Int) < (l.length:Int)):=by omega
   go_wp2_with fail
   refine (jform_any (w.heap.size+1+1) (jj l.length) wr HR.out.jn (HJB.out _).1).mono ?_
   rintro e w4 ⟨rfl,hb4⟩
   have HR4:=zzA (HR.out.bel hb4)
   clear hb4
   rw [←HG.out]
   simp only [fv,fvals]
   have q0:w4.cell? ⟨w.heap.size+1,0,none⟩=some (.int .i64 0):=HR4.out.rs.res.cell 0
   have s0:=HR4.out.rs.res.frozen 0
   have q1:w4.cell? ⟨w.heap.size+1,1,none⟩=some (.int .i64 0):=HR4.out.rs.res.cell 1
   have s1:=HR4.out.rs.res.frozen 1
   have q2:w4.cell? ⟨w.heap.size+1,2,none⟩=some (.int .i64 0):=HR4.out.rs.res.cell 2
   have s2:=HR4.out.rs.res.frozen 2
   have q3:w4.cell? ⟨w.heap.size+1,3,none⟩=some (.int .i64 0):=HR4.out.rs.res.cell 3
   have s3:=HR4.out.rs.res.frozen 3
   have s9:=HR4.out.rs.res.lt
   go_wp2_with fail
   refine zzm (form_ret rfl _ _ (w.heap.size+1) (.int .i64 g.kind) (.int .i64 g.size) (.int .i64 g.deep) (.int .i64 g.subs) rfl ((((HR4.out.rs.res.set_ 0 (.int .i64 g.kind)).set_ 1 (.int .i64 g.size)).set_ 2 (.int .i64 g.deep)).set_ 3 (.int .i64 g.subs))) rfl ?_
   refine ⟨rfl,zyH HR4.out.rs.below ((((zyG ⟨w.heap.size+1,0,none⟩ _).trans (zyG ⟨w.heap.size+1,1,none⟩ _)).trans (zyG ⟨w.heap.size+1,2,none⟩ _)).trans (zyG ⟨w.heap.size+1,3,none⟩ _)) ?_ HR4.out.rs.below.size⟩
   intro b hb;simp at hb;omega
theorem reck_alt (k:Int) (r:List (Int × Int)) (ra:Option Addr) (rc:Nat) (ast:Int) (l:List Ta) (sa:Option Addr) (sc:Nat) (mn mx:Int) (z:Bool) (ix:Int) (nm:ByteArray) (S:Nat→Prop) (w:World) (h:RT w S (.mk k r ra rc ast l sa sc mn mx z ix nm)) (hS:∀ b,S b→b < w.heap.size) (h7:(k==7)=false) (h4:(k==4)=false) (h5:(k==5)=true) (hih:∀ u∈l,RK u) (hF1:∀ u∈l,FB1 (reckonS u.tr)) :
  Calls Tryz.prog 42 #[(Ta.mk k r ra rc ast l sa sc mn mx z ix nm).val] w fun e w'=>e=.returned (fv (boundF ⟨5,((l.map fun u=>reckonS u.tr).foldl altPutF (1,0)).1,((l.map fun u=>reckonS u.tr).foldl altPutF (1,0)).2+1,0⟩))∧Below w.heap.size w w':=by
 obtain ⟨⟨hR,hrl,hll⟩,hN,hL⟩:=h.parts
 have HS:=zzA (reck_start w k r ra rc ast l sa sc mn mx z ix nm rfl)
 clear h hR
 have hsc:=hN.1
 have hsc2:=hN.2.1
 have hAB:∀ i,AB (((l.map fun u=>reckonS u.tr).take i).foldl altPutF (1,0)):=fun i=>ab_foldl (by simp only [AB];omega) fun f hf=>by
  obtain ⟨u,hu,rfl⟩:=zzp.1 (List.mem_of_mem_take hf)
  exact hF1 u hu
 have hST:∀ i u,l[i]?=some u→((l.map fun u=>reckonS u.tr).take (i+1)).foldl altPutF (1,0)=altPutF (((l.map fun u=>reckonS u.tr).take i).foldl altPutF (1,0)) (reckonS u.tr):=fun i u hu=>foldl_take _ _ (by rw [zza,hu];rfl)
 have hEN:((l.map fun u=>reckonS u.tr).take l.length).foldl altPutF (1,0)=(l.map fun u=>reckonS u.tr).foldl altPutF (1,0):=by rw [List.take_of_length_le (by simp)]
 rw [←hEN]
 clear hEN
 have h0:((l.map fun u=>reckonS u.tr).take 0).foldl altPutF (1,0)=((1:Int),(0:Int)):=rfl
 obtain ⟨jj,hjj⟩:∃ jj:Nat→Int × Int,jj=fun i=>((l.map fun u=>reckonS u.tr).take i).foldl altPutF (1,0):=⟨_,rfl⟩
 simp only [show ∀ i,((l.map fun u=>reckonS u.tr).take i).foldl altPutF (1,0)=jj i from fun i=>by rw [hjj]] at hAB hST h0 ⊢
 clear hjj
 obtain ⟨g,hg⟩:∃ g,g=boundF ⟨5,(jj l.length).1,(jj l.length).2+1,0⟩:=⟨_,rfl⟩
 rw [←hg]
 have HG:=zzA hg
 clear hg
 simp only [Ta.val,Ta.vals,fv,fvals]
 go_enter Tryz.func42,Tryz.ntmps42
 go_wp2_with fail
 have HR0:=zzA (show RS w [.int .i64 k,.slice ra r.length rc,.int .i64 ast,.slice sa l.length sc,.int .i64 mn,.int .i64 mx,.bool z,.int .i64 ix,.string nm] ((w.alloc (.cells #[.int .i64 k,.slice ra r.length rc,.int .i64 ast,.slice sa l.length sc,.int .i64 mn,.int .i64 mx,.bool z,.int .i64 ix,.string nm] 25)).alloc (.cells #[.int .i64 0,.int .i64 0,.int .i64 0,.int .i64 0] 93)) from ⟨HS.out.1,HS.out.2.1,HS.out.2.2⟩)
 generalize ((w.alloc (.cells #[.int .i64 k,.slice ra r.length rc,.int .i64 ast,.slice sa l.length sc,.int .i64 mn,.int .i64 mx,.bool z,.int .i64 ix,.string nm] 25)).alloc (.cells #[.int .i64 0,.int .i64 0,.int .i64 0,.int .i64 0] 93))=w3 at *
 have HIH:=zzA hih
 have HN:=zzA hN
 have HL:=zzA hL
 have HSS:=zzA hS
 have HF1:=zzA hF1
 have HAB:=zzA hAB
 have HST:=zzA hST
 clear hih hN hL hS hF1 hAB hST HS
 go_loopw [6,7,40] (fun sv dv iv wr=>∃ (i:Nat),i≤l.length∧iv=.int .i64 (i:Int)∧sv=.int .i64 (jj i).1∧dv=.int .i64 (jj i).2∧RS w [.int .i64 k,.slice ra r.length rc,.int .i64 ast,.slice sa l.length sc,.int .i64 mn,.int .i64 mx,.bool z,.int .i64 ix,.string nm] wr) (fun _ _ iv _=>l.length - (intOf iv).toNat)
 case atStart=>exact ⟨0,zzZ _,rfl,by rw [h0],by rw [h0],HR0.out⟩
 case round =>
  obtain ⟨i,hi,rfl,rfl,rfl,hr⟩:=hrel
  have HR:=zzA hr
  clear hr h0 HR0
  obtain ⟨p1,p2,p3,p4⟩:=HAB.out i
  by_cases hlt:i < l.length
  ·have hlt2:(i:Int) < (l.length:Int):=by omega
   obtain ⟨b,off,rfl,hSb,_⟩:=HN.out.2.2.2.2 (by omega)
   obtain ⟨u,hu⟩:∃ u,l[i]?=some u:=⟨_,zzJ hlt⟩
   have hum:u∈l:=zzL hu
   have hbb:=HSS.out b hSb
   have hcell:∀ j,j < 9→wr.cell? ⟨b,off+i*9+j,none⟩=u.vals[j]?:=fun j hj=>by
    rw [zzy]
    rw [←HN.out.node hu hj]
    exact (HR.out.below.cell (p:=⟨b,off+(i*9+j),none⟩) hbb)
   have hba:Below wr.heap.size wr (wr.alloc (.cells u.vals.toArray 25)):=(zzb _ _).alloc (zzF _) _
   have HR1:=zzA (HR.out.bel hba)
   have hRK:=HIH.out u hum S (wr.alloc (.cells u.vals.toArray 25)) ((HL.out u hum).below HSS.out HR1.out.below) (fun b hb=>zzQ (HSS.out b hb) HR1.out.below.size)
   have hF:=HF1.out u hum
   have hst:=HST.out i u hu
   clear hba hbb
   obtain ⟨f,hf⟩:∃ f,f=reckonS u.tr:=⟨_,rfl⟩
   rw [←hf] at hRK hF hst
   clear hf
   cases u with
   | mk k' r' ra' rc' a' l' sa' sc' n' m' z' i' s' =>
   simp only [Ta.vals] at hcell HR1
   simp only [Ta.val,Ta.vals] at hRK
   have c0:=hcell 0 (by omega)
   have c1:=hcell 1 (by omega)
   have c2:=hcell 2 (by omega)
   have c3:=hcell 3 (by omega)
   have c4:=hcell 4 (by omega)
   have c5:=hcell 5 (by omega)
   have c6:=hcell 6 (by omega)
   have c7:=hcell 7 (by omega)
   have c8:=hcell 8 (by omega)
   simp only [zzR,zzX,Nat.add_zero] at c0 c1 c2 c3 c4 c5 c6 c7 c8
   have HIN:=zzA hRK
   obtain ⟨⟨f1,f2,f3,f4,f5,f6⟩,f7,f8,-⟩:=hF
   clear hcell hu hum hRK
   go_wp2_with fail
   refine HIN.out.mono ?_
   rintro e w5 ⟨rfl,hb5⟩
   have HR5:=zzA (HR1.out.bel hb5)
   clear hb5 HR1 HIN c0 c1 c2 c3 c4 c5 c6 c7 c8
   simp only [fv,fvals]
   rcases hk5:(f.kind==5) with _ | _
   ·have e5:¬f.kind=5:=by simpa using hk5
    have e1:(jj (i+1)).1=min ((jj i).1+f.size) 200001:=by rw [hst];simp only [altPutF,if_neg e5,cN]
    have e2:(jj (i+1)).2=max (jj i).2 f.deep:=by rw [hst];simp only [altPutF,if_neg e5]
    have E1:=zzA e1
    have E2:=zzA e2
    clear hst e1 e2 e5
    have hways:((jj i).1+f.size≤200001∨200001 < (jj i).1+f.size)∧((jj i).2≤f.deep∨f.deep < (jj i).2):=by omega
    go_wp2_with fail
    have hf6:=zyI w5 93 [.int .i64 f.kind,.int .i64 f.size,.int .i64 f.deep,.int .i64 f.subs]
    have hr6:=HR5.out.bel ((zzb w5.heap.size w5).alloc (zzF _) (.cells #[.int .i64 f.kind,.int .i64 f.size,.int .i64 f.deep,.int .i64 f.subs] 93))
    have HF6:=zzA hf6
    have HR6:=zzA hr6
    clear hf6 hr6
    generalize (w5.alloc (.cells #[.int .i64 f.kind,.int .i64 f.size,.int .i64 f.deep,.int .i64 f.subs] 93))=w6 at *
    have d1:w6.drew.cell? ⟨w5.heap.size,1,none⟩=some (.int .i64 f.size):=HF6.out.cell 1
    have d2:w6.drew.cell? ⟨w5.heap.size,2,none⟩=some (.int .i64 f.deep):=HF6.out.cell 2
    obtain ⟨m1 | m1,m2 | m2⟩:=hways
    all_goals
     go_region
     all_goals go_wp2_with fail
     all_goals go_roundw
     all_goals try (case rel=>exact ⟨i+1,by omega,by go_num,int_eq (by have:=E1.out;omega),int_eq (by have:=E2.out;omega),HR6.out.bel (bdrewN (zzb _ _) 1)⟩)
     all_goals (simp [intOf];omega)
   ·have e5:f.kind=5:=by simpa using hk5
    have e1:(jj (i+1)).1=min ((jj i).1+(f.size - 1)) 200001:=by rw [hst];simp only [altPutF,if_pos e5,cN]
    have e2:(jj (i+1)).2=max (jj i).2 (f.deep - 1):=by rw [hst];simp only [altPutF,if_pos e5]
    have E1:=zzA e1
    have E2:=zzA e2
    clear hst e1 e2 e5
    have hways:((jj i).1+(f.size - 1)≤200001∨200001 < (jj i).1+(f.size - 1))∧((jj i).2≤(f.deep - 1)∨(f.deep - 1) < (jj i).2):=by omega
    go_wp2_with fail
    have hf6:=zyI w5 93 [.int .i64 f.kind,.int .i64 (f.size - 1),.int .i64 (f.deep - 1),.int .i64 f.subs]
    have hr6:=HR5.out.bel ((zzb w5.heap.size w5).alloc (zzF _) (.cells #[.int .i64 f.kind,.int .i64 (f.size - 1),.int .i64 (f.deep - 1),.int .i64 f.subs] 93))
    have HF6:=zzA hf6
    have HR6:=zzA hr6
    clear hf6 hr6
    generalize (w5.alloc (.cells #[.int .i64 f.kind,.int .i64 (f.size - 1),.int .i64 (f.deep - 1),.int .i64 f.subs] 93))=w6 at *
    have d1:w6.drew.cell? ⟨w5.heap.size,1,none⟩=some (.int .i64 (f.size - 1)):=HF6.out.cell 1
    have d2:w6.drew.cell? ⟨w5.heap.size,2,none⟩=some (.int .i64 (f.deep - 1)):=HF6.out.cell 2
    obtain ⟨m1 | m1,m2 | m2⟩:=hways
    all_goals
     go_region
     all_goals go_wp2_with fail
     all_goals go_roundw
     all_goals try (case rel=>exact ⟨i+1,by omega,by go_num,int_eq (by have:=E1.out;omega),int_eq (by have:=E2.out;omega),HR6.out.bel (bdrewN (zzb _ _) 1)⟩)
     all_goals (simp [intOf];omega)
  ·obtain rfl:i=l.length:=by omega
   have hlt2:¬((l.length:Int) < (l.length:Int)):=by omega
   go_wp2_with fail
   refine (bounded_any ⟨5,(jj l.length).1,(jj l.length).2+1,0⟩ wr).mono ?_
   rintro e w4 ⟨rfl,hb4⟩
   have HR4:=zzA (HR.out.bel hb4)
   clear hb4
   rw [←HG.out]
   simp only [fv,fvals]
   have q0:w4.cell? ⟨w.heap.size+1,0,none⟩=some (.int .i64 0):=HR4.out.res.cell 0
   have s0:=HR4.out.res.frozen 0
   have q1:w4.cell? ⟨w.heap.size+1,1,none⟩=some (.int .i64 0):=HR4.out.res.cell 1
   have s1:=HR4.out.res.frozen 1
   have q2:w4.cell? ⟨w.heap.size+1,2,none⟩=some (.int .i64 0):=HR4.out.res.cell 2
   have s2:=HR4.out.res.frozen 2
   have q3:w4.cell? ⟨w.heap.size+1,3,none⟩=some (.int .i64 0):=HR4.out.res.cell 3
   have s3:=HR4.out.res.frozen 3
   have s9:=HR4.out.res.lt
   go_wp2_with fail
   refine zzm (form_ret rfl _ _ (w.heap.size+1) (.int .i64 g.kind) (.int .i64 g.size) (.int .i64 g.deep) (.int .i64 g.subs) rfl ((((HR4.out.res.set_ 0 (.int .i64 g.kind)).set_ 1 (.int .i64 g.size)).set_ 2 (.int .i64 g.deep)).set_ 3 (.int .i64 g.subs))) rfl ?_
   refine ⟨rfl,zyH HR4.out.below ((((zyG ⟨w.heap.size+1,0,none⟩ _).trans (zyG ⟨w.heap.size+1,1,none⟩ _)).trans (zyG ⟨w.heap.size+1,2,none⟩ _)).trans (zyG ⟨w.heap.size+1,3,none⟩ _)) ?_ HR4.out.below.size⟩
   intro b hb;simp at hb;omega
theorem fb1_reckon {t:Tr.Tr} (h:allB t=true):FB1 (reckonS t):=by
 rw [reckon_form t h]
 have h1:=size_pos (simpleS t)
 have h2:=deep_pos (simpleS t)
 have h3:=(simple_good t h).1
 generalize simpleS t=u at *
 have hq:u.kind=4→2≤u.subs.length:=fun hk=>by
  cases kinds h3 with
  | cat l hc hs=>exact hc
  | empty=>exact absurd hk (by decide)
  | cls r hr=>exact absurd (show (_:Int)=4 from hk) (by change ¬(_:Int)=4;simp [Tr.kind,altT,repT,groupT])
  | ass a ha=>exact absurd (show (_:Int)=4 from hk) (by change ¬(_:Int)=4;simp [Tr.kind,altT,repT,groupT])
  | alt l hc hs=>exact absurd (show (_:Int)=4 from hk) (by change ¬(_:Int)=4;simp [Tr.kind,altT,repT,groupT])
  | rep x n m z hx h0 hb hm=>exact absurd (show (_:Int)=4 from hk) (by change ¬(_:Int)=4;simp [Tr.kind,altT,repT,groupT])
  | group x i s hx h0 hb hm=>exact absurd (show (_:Int)=4 from hk) (by change ¬(_:Int)=4;simp [Tr.kind,altT,repT,groupT])
 simp only [FB1,FB,capF,cN,cD]
 by_cases hk:u.kind=4
 ·have:=hq hk
  simp only [if_pos hk]
  omega
 ·simp only [if_neg hk]
  omega
theorem reckon_any:∀ t:Ta,allB t.tr=true→RK t:=by
 intro t
 induction t using Ta.ind with
 | h t ih =>
  cases t with
  | mk k r ra rc ast l sa sc mn mx z ix nm =>
  intro h S w hr hS
  have hs:∀ u∈l,allB u.tr=true:=fun u hu=>((allB_iff _).1 h).2 u.tr (by rw [Ta.tr_subs];exact zzk hu)
  have hih:∀ u∈l,RK u:=fun u hu=>ih u hu (hs u hu)
  have hF:∀ u∈l,FB1 (reckonS u.tr):=fun u hu=>fb1_reckon (hs u hu)
  have hm:reckonsS (trs l)=l.map fun u=>reckonS u.tr:=by rw [reckonsS_map,trs_map,List.map_map];rfl
  have hlen:=trs_length l
  simp only [Ta.tr,reckonS,hm]
  simp only [Ta.tr] at h
  clear hm ih hs
  generalize trs l=L at h hlen
  cases kinds h with
  | empty=>exact reck_leaf _ _ _ _ _ _ _ _ _ _ _ _ _ S w hr hS rfl rfl rfl rfl
  | cls r hr'=>exact reck_leaf _ _ _ _ _ _ _ _ _ _ _ _ _ S w hr hS rfl rfl rfl rfl
  | ass a ha=>exact reck_leaf _ _ _ _ _ _ _ _ _ _ _ _ _ S w hr hS rfl rfl rfl rfl
  | cat L h2 hs=>exact reck_cat _ _ _ _ _ _ _ _ _ _ _ _ _ S w hr hS rfl rfl hih hF
  | alt L h2 hs=>exact reck_alt _ _ _ _ _ _ _ _ _ _ _ _ _ S w hr hS rfl rfl rfl hih hF
  | rep x n m z hx h0 h1 hm=>exact reck_rep _ _ _ _ _ _ _ _ _ _ _ _ _ S w hr hS rfl rfl rfl rfl (by simpa using hlen.symm) h0 h1 (by omega) hih hF
  | group x i s hx h0 h1 hm=>exact reck_group _ _ _ _ _ _ _ _ _ _ _ _ _ S w hr hS rfl (by simpa using hlen.symm) hih hF
end Go.Proofs.YtgkclnmmjedmkaaGreat
