/- meaning.unfolded: what stands when a repeat is unfolded. -/
import Derived.Laws.EntriesVeiled
import Derived.Deep.RegionHeld3
import Derived.Test.YtgkclnmmjedmkaaGreatP14
set_option maxRecDepth 100000
set_option maxHeartbeats 8000000
namespace Go.Proofs.YtgkclnmmjedmkaaGreat
open Go.RowKit Tr
theorem UT.low {w:World} {S:Nat→Prop} {B B0:Nat} {u:Mean.Un} (h:UT w S (Fr B [] w) u) (hB:B0≤B):UT w S (Fr B0 [] w) u:=h.mono (fun b hb=>hb) fun b hb=>⟨zzU hB hb.1,hb.2.1,hb.2.2⟩
theorem cons_of {n:Nat} {l:List Value} (h:l.length=n+1):∃ u l',l=u :: l'∧l'.length=n:=by
 match l,h with
 | u :: l',h=>exact ⟨u,l',rfl,by simpa using h⟩
def RepR (w1:World) (S:Nat→Prop) (b0 bx bo nb b off sc:Nat) (x:Ta) (L:List Us) (a:Act) (w:World):Prop :=
 ∃ tm:List Value,a=⟨tm.toArray,[]⟩∧tm.length=133∧tm[8]?=some (.pointer (some ⟨bo,0,none⟩))∧∃ A c us,RepOk w1 S b0 bx bo nb b off sc x w (.slice A us.length c) us∧shUs us=L
theorem plus_leaf {w1 w w5 w6 w7:World} {S:Nat→Prop} {b0 bx bo nb b off sc:Nat} {x:Ta} {v:Value} {vs:List Mean.Un} {u6:Mean.Un} {A7:Option Addr} {c7:Nat} {L:List Us} {y:Us} (h:RepOk w1 S b0 bx bo nb b off sc x w v vs)
  (hu:UT w5 S (Fr w.heap.size [] w5) u6) (hb5:Below w.heap.size w w5) (hb6:Below w5.heap.size w5 w6) (ha:Appended w1.heap.size 69 1 v (.slice A7 (vs.length+1) c7) vs.length 1 (uptrs vs) (uptrs [u6]) w6 w7) (hy:shU u6=y) (hL:shUs vs=L) :
  ∃ A c us,RepOk w1 S b0 bx bo nb b off sc x (w7.setCell ⟨nb,5,none⟩ (.slice A7 (vs.length+1) c7)) (.slice A us.length c) us∧shUs us=L++[y]:=by
 have hput:=RowU.put (f5:=rfl) h.row hu hb5 hb6 ha
 have hrep:=h.keep hput.2.1 (fun c hc=>(zzN.1 hc).elim (fun e=>.inl e) (fun e=>.inr (h.row.own_ge c e))) hput.1
 refine ⟨A7,c7,vs++[u6],?_,?_⟩
 ·rw [show (vs++[u6]).length=vs.length+1 from by simp];exact hrep
 ·rw [shUs_map,zzT,←shUs_map,hL,List.map_singleton,hy]
theorem alloc_set (w:World) (a v:Value) (t:TypeId) (g:Nat) (hg:g=w.heap.size):(w.alloc (.cells #[a] t)).setCell ⟨g,0,none⟩ v=w.alloc (.cells #[v] t):=by
 rw [World.setCell_alloc_at _ _ _ _ _ hg]
 simp
theorem rep_start (S:Nat→Prop) (w:World) (r:List (Int × Int)) (ra:Option Addr) (rc:Nat) (ast mn mx:Int) (z:Bool) (ix:Int) (nm:ByteArray) (b off sc:Nat) (x:Ta) (hS:∀ c,S c→c < w.heap.size) (hb:S b) (hc:∀ j,j < 9→w.cell? ⟨b,off+j,none⟩=x.vals[j]?) (hx:RT w S x) :
  Below w.heap.size w ((((w.alloc (.cells #[.int .i64 6,.slice ra r.length rc,.int .i64 ast,.slice (some ⟨b,off,none⟩) 1 sc,.int .i64 mn,.int .i64 mx,.bool z,.int .i64 ix,.string nm] 25)).alloc (.cells #[(.func (Fn.func 55) #[] #[.pointer (some ⟨w.heap.size,0,none⟩)])] 114)).alloc (.cells #[.int .i64 4,.slice none 0 0,.int .i64 0,.int .i64 0,.bool false,.slice none 0 0] 110)).alloc (.cells #[.pointer (some ⟨w.heap.size+2,0,none⟩)] 69))∧((((w.alloc (.cells #[.int .i64 6,.slice ra r.length rc,.int .i64 ast,.slice (some ⟨b,off,none⟩) 1 sc,.int .i64 mn,.int .i64 mx,.bool z,.int .i64 ix,.string nm] 25)).alloc (.cells #[(.func (Fn.func 55) #[] #[.pointer (some ⟨w.heap.size,0,none⟩)])] 114)).alloc (.cells #[.int .i64 4,.slice none 0 0,.int .i64 0,.int .i64 0,.bool false,.slice none 0 0] 110)).alloc (.cells #[.pointer (some ⟨w.heap.size+2,0,none⟩)] 69)).heap.size=w.heap.size+4∧Blk ((((w.alloc (.cells #[.int .i64 6,.slice ra r.length rc,.int .i64 ast,.slice (some ⟨b,off,none⟩) 1 sc,.int .i64 mn,.int .i64 mx,.bool z,.int .i64 ix,.string nm] 25)).alloc (.cells #[(.func (Fn.func 55) #[] #[.pointer (some ⟨w.heap.size,0,none⟩)])] 114)).alloc (.cells #[.int .i64 4,.slice none 0 0,.int .i64 0,.int .i64 0,.bool false,.slice none 0 0] 110)).alloc (.cells #[.pointer (some ⟨w.heap.size+2,0,none⟩)] 69)) w.heap.size 25 [.int .i64 6,.slice ra r.length rc,.int .i64 ast,.slice (some ⟨b,off,none⟩) 1 sc,.int .i64 mn,.int .i64 mx,.bool z,.int .i64 ix,.string nm]∧RepOk ((((w.alloc (.cells #[.int .i64 6,.slice ra r.length rc,.int .i64 ast,.slice (some ⟨b,off,none⟩) 1 sc,.int .i64 mn,.int .i64 mx,.bool z,.int .i64 ix,.string nm] 25)).alloc (.cells #[(.func (Fn.func 55) #[] #[.pointer (some ⟨w.heap.size,0,none⟩)])] 114)).alloc (.cells #[.int .i64 4,.slice none 0 0,.int .i64 0,.int .i64 0,.bool false,.slice none 0 0] 110)).alloc (.cells #[.pointer (some ⟨w.heap.size+2,0,none⟩)] 69)) S w.heap.size (w.heap.size+1) (w.heap.size+3) (w.heap.size+2) b off sc x ((((w.alloc (.cells #[.int .i64 6,.slice ra r.length rc,.int .i64 ast,.slice (some ⟨b,off,none⟩) 1 sc,.int .i64 mn,.int .i64 mx,.bool z,.int .i64 ix,.string nm] 25)).alloc (.cells #[(.func (Fn.func 55) #[] #[.pointer (some ⟨w.heap.size,0,none⟩)])] 114)).alloc (.cells #[.int .i64 4,.slice none 0 0,.int .i64 0,.int .i64 0,.bool false,.slice none 0 0] 110)).alloc (.cells #[.pointer (some ⟨w.heap.size+2,0,none⟩)] 69)) (.slice none 0 0) []:=by
 have e1:(w.alloc (.cells #[.int .i64 6,.slice ra r.length rc,.int .i64 ast,.slice (some ⟨b,off,none⟩) 1 sc,.int .i64 mn,.int .i64 mx,.bool z,.int .i64 ix,.string nm] 25)).heap.size=w.heap.size+1:=by simp
 have e2:((w.alloc (.cells #[.int .i64 6,.slice ra r.length rc,.int .i64 ast,.slice (some ⟨b,off,none⟩) 1 sc,.int .i64 mn,.int .i64 mx,.bool z,.int .i64 ix,.string nm] 25)).alloc (.cells #[(.func (Fn.func 55) #[] #[.pointer (some ⟨w.heap.size,0,none⟩)])] 114)).heap.size=w.heap.size+2:=by simp
 have e3:(((w.alloc (.cells #[.int .i64 6,.slice ra r.length rc,.int .i64 ast,.slice (some ⟨b,off,none⟩) 1 sc,.int .i64 mn,.int .i64 mx,.bool z,.int .i64 ix,.string nm] 25)).alloc (.cells #[(.func (Fn.func 55) #[] #[.pointer (some ⟨w.heap.size,0,none⟩)])] 114)).alloc (.cells #[.int .i64 4,.slice none 0 0,.int .i64 0,.int .i64 0,.bool false,.slice none 0 0] 110)).heap.size=w.heap.size+3:=by simp
 have e4:((((w.alloc (.cells #[.int .i64 6,.slice ra r.length rc,.int .i64 ast,.slice (some ⟨b,off,none⟩) 1 sc,.int .i64 mn,.int .i64 mx,.bool z,.int .i64 ix,.string nm] 25)).alloc (.cells #[(.func (Fn.func 55) #[] #[.pointer (some ⟨w.heap.size,0,none⟩)])] 114)).alloc (.cells #[.int .i64 4,.slice none 0 0,.int .i64 0,.int .i64 0,.bool false,.slice none 0 0] 110)).alloc (.cells #[.pointer (some ⟨w.heap.size+2,0,none⟩)] 69)).heap.size=w.heap.size+4:=by simp
 have k0:=(((zyI w 25 [.int .i64 6,.slice ra r.length rc,.int .i64 ast,.slice (some ⟨b,off,none⟩) 1 sc,.int .i64 mn,.int .i64 mx,.bool z,.int .i64 ix,.string nm]).alloc (.cells #[(.func (Fn.func 55) #[] #[.pointer (some ⟨w.heap.size,0,none⟩)])] 114)).alloc (.cells #[.int .i64 4,.slice none 0 0,.int .i64 0,.int .i64 0,.bool false,.slice none 0 0] 110)).alloc (.cells #[.pointer (some ⟨w.heap.size+2,0,none⟩)] 69)
 have k1:=((zyI (w.alloc (.cells #[.int .i64 6,.slice ra r.length rc,.int .i64 ast,.slice (some ⟨b,off,none⟩) 1 sc,.int .i64 mn,.int .i64 mx,.bool z,.int .i64 ix,.string nm] 25)) 114 [(.func (Fn.func 55) #[] #[.pointer (some ⟨w.heap.size,0,none⟩)])]).alloc (.cells #[.int .i64 4,.slice none 0 0,.int .i64 0,.int .i64 0,.bool false,.slice none 0 0] 110)).alloc (.cells #[.pointer (some ⟨w.heap.size+2,0,none⟩)] 69)
 have k2:=(zyI ((w.alloc (.cells #[.int .i64 6,.slice ra r.length rc,.int .i64 ast,.slice (some ⟨b,off,none⟩) 1 sc,.int .i64 mn,.int .i64 mx,.bool z,.int .i64 ix,.string nm] 25)).alloc (.cells #[(.func (Fn.func 55) #[] #[.pointer (some ⟨w.heap.size,0,none⟩)])] 114)) 110 [.int .i64 4,.slice none 0 0,.int .i64 0,.int .i64 0,.bool false,.slice none 0 0]).alloc (.cells #[.pointer (some ⟨w.heap.size+2,0,none⟩)] 69)
 have k3:=zyI (((w.alloc (.cells #[.int .i64 6,.slice ra r.length rc,.int .i64 ast,.slice (some ⟨b,off,none⟩) 1 sc,.int .i64 mn,.int .i64 mx,.bool z,.int .i64 ix,.string nm] 25)).alloc (.cells #[(.func (Fn.func 55) #[] #[.pointer (some ⟨w.heap.size,0,none⟩)])] 114)).alloc (.cells #[.int .i64 4,.slice none 0 0,.int .i64 0,.int .i64 0,.bool false,.slice none 0 0] 110)) 69 [.pointer (some ⟨w.heap.size+2,0,none⟩)]
 rw [e1] at k1
 rw [e2] at k2
 rw [e3] at k3
 have hbw:Below w.heap.size w ((((w.alloc (.cells #[.int .i64 6,.slice ra r.length rc,.int .i64 ast,.slice (some ⟨b,off,none⟩) 1 sc,.int .i64 mn,.int .i64 mx,.bool z,.int .i64 ix,.string nm] 25)).alloc (.cells #[(.func (Fn.func 55) #[] #[.pointer (some ⟨w.heap.size,0,none⟩)])] 114)).alloc (.cells #[.int .i64 4,.slice none 0 0,.int .i64 0,.int .i64 0,.bool false,.slice none 0 0] 110)).alloc (.cells #[.pointer (some ⟨w.heap.size+2,0,none⟩)] 69)):=((((zzb _ _).alloc (zzF _) _).alloc (by rw [e1];omega) _).alloc (by rw [e2];omega) _).alloc (by rw [e3];omega) _
 refine ⟨hbw,e4,k0,⟨Kept.refl,⟨k2,World.ownsRow_nil _ _ _ _,by simp,by simp,zzF _,fun c hc'=>by have:=hS c hc';rw [e4];omega⟩,⟨k0.cell 3,fun j hj=>(hbw.cell (p:=⟨b,off+j,none⟩) (hS b hb)).trans (hc j hj),hx.below hS hbw,fun c hc'=>by have:=hS c hc';rw [e4];omega,by rw [e4];omega,hb⟩,k1.cell 0,k3.cell 0,by rw [e4];omega⟩⟩
theorem unf_star (r:List (Int × Int)) (ra:Option Addr) (rc:Nat) (ast:Int) (x:Ta) (sa:Option Addr) (sc:Nat) (mn mx:Int) (z:Bool) (ix:Int) (nm:ByteArray) (hx:mx=-1) (hn:mn=0) (ih:UfOk x):UfOk (Ta.mk 6 r ra rc ast [x] sa sc mn mx z ix nm):=by
 subst hx
 subst hn
 intro S w h hall hS
 obtain ⟨i0,hi,hz0,hz1,hz2⟩:=info_parts node_info
 obtain ⟨-,hN,hL⟩:=h.parts
 obtain ⟨hnb,hsb⟩:=(allB_iff _).1 hall
 rw [Ta.tr_subs] at hsb
 have hax:allB x.tr=true:=hsb _ (by simp [Ta.subs])
 have hbd:0≤(0:Int)∧(0:Int)≤1000∧(((-1):Int)=-1∨(0:Int)≤(-1)∧((-1):Int)≤1000):=by
  unfold Ta.tr nodeB nodeF at hnb
  simp only [reduceIte,Int.reduceEq,zzc,Bool.or_eq_true,zzg,zyE] at hnb
  first | exact ⟨by omega,by omega,.inl rfl⟩ | exact ⟨hnb.2.2.1,hnb.2.2.2.1,hnb.2.2.2.2⟩
 obtain ⟨b,off,rfl,hSb,_⟩:=hN.2.2.2.2 (by simp)
 have hcx:∀ j,j < 9→w.cell? ⟨b,off+j,none⟩=x.vals[j]?:=fun j hj=>by
  have:=RdA.node hN (l:=[x]) (j:=0) (t:=x) rfl hj
  rwa [Nat.zero_mul,zzw] at this
 have hxr:RT w S x:=hL x (by simp)
 obtain ⟨hb1,hs1,hbk,hro⟩:=rep_start S w r ra rc ast 0 (-1) z ix nm b off sc x hS hSb hcx hxr
 obtain ⟨U0,hU0⟩:∃ U0,U0=unfS (Ta.mk 6 r ra rc ast [x] (some ⟨b,off,none⟩) sc 0 (-1) z ix nm).tr:=⟨_,rfl⟩
 rw [←hU0]
 have HU:=zzA (show U0=repU (unfS x.tr) 0 (-1) z from by rw [hU0,Ta.tr,unfS,if_neg (by simp)];rfl)
 have HAX:=zzA hax
 have IH:=zzA ih
 have HS:=zzA hS
 have HB1:=zzA hb1
 have HRO:=zzA hro
 have HBK:=zzA hbk
 have q4:((((w.alloc (.cells #[.int .i64 6,.slice ra r.length rc,.int .i64 ast,.slice (some ⟨b,off,none⟩) 1 sc,.int .i64 0,.int .i64 (-1),.bool z,.int .i64 ix,.string nm] 25)).alloc (.cells #[(.func (Fn.func 55) #[] #[.pointer (some ⟨w.heap.size,0,none⟩)])] 114)).alloc (.cells #[.int .i64 4,.slice none 0 0,.int .i64 0,.int .i64 0,.bool false,.slice none 0 0] 110)).alloc (.cells #[.pointer (some ⟨w.heap.size+2,0,none⟩)] 69)).cell? ⟨w.heap.size,4,none⟩=some (.int .i64 0):=hbk.cell 4
 have q5:((((w.alloc (.cells #[.int .i64 6,.slice ra r.length rc,.int .i64 ast,.slice (some ⟨b,off,none⟩) 1 sc,.int .i64 0,.int .i64 (-1),.bool z,.int .i64 ix,.string nm] 25)).alloc (.cells #[(.func (Fn.func 55) #[] #[.pointer (some ⟨w.heap.size,0,none⟩)])] 114)).alloc (.cells #[.int .i64 4,.slice none 0 0,.int .i64 0,.int .i64 0,.bool false,.slice none 0 0] 110)).alloc (.cells #[.pointer (some ⟨w.heap.size+2,0,none⟩)] 69)).cell? ⟨w.heap.size,5,none⟩=some (.int .i64 (-1)):=hbk.cell 5
 have q6:((((w.alloc (.cells #[.int .i64 6,.slice ra r.length rc,.int .i64 ast,.slice (some ⟨b,off,none⟩) 1 sc,.int .i64 0,.int .i64 (-1),.bool z,.int .i64 ix,.string nm] 25)).alloc (.cells #[(.func (Fn.func 55) #[] #[.pointer (some ⟨w.heap.size,0,none⟩)])] 114)).alloc (.cells #[.int .i64 4,.slice none 0 0,.int .i64 0,.int .i64 0,.bool false,.slice none 0 0] 110)).alloc (.cells #[.pointer (some ⟨w.heap.size+2,0,none⟩)] 69)).cell? ⟨w.heap.size,6,none⟩=some (.bool z):=hbk.cell 6
 have ea1:(w.alloc (.cells #[.int .i64 6,.slice ra r.length rc,.int .i64 ast,.slice (some ⟨b,off,none⟩) 1 sc,.int .i64 0,.int .i64 (-1),.bool z,.int .i64 ix,.string nm] 25)).heap.size=w.heap.size+1:=by simp
 have ea3:(((w.alloc (.cells #[.int .i64 6,.slice ra r.length rc,.int .i64 ast,.slice (some ⟨b,off,none⟩) 1 sc,.int .i64 0,.int .i64 (-1),.bool z,.int .i64 ix,.string nm] 25)).alloc (.cells #[(.func (Fn.func 55) #[] #[.pointer (some ⟨w.heap.size,0,none⟩)])] 114)).alloc (.cells #[.int .i64 4,.slice none 0 0,.int .i64 0,.int .i64 0,.bool false,.slice none 0 0] 110)).heap.size=w.heap.size+3:=by simp
 have hset1:=alloc_set (w.alloc (.cells #[.int .i64 6,.slice ra r.length rc,.int .i64 ast,.slice (some ⟨b,off,none⟩) 1 sc,.int .i64 0,.int .i64 (-1),.bool z,.int .i64 ix,.string nm] 25)) .nilFunc (.func (Fn.func 55) #[] #[.pointer (some ⟨w.heap.size,0,none⟩)]) 114 (w.heap.size+1) ea1.symm
 have hset2:=alloc_set (((w.alloc (.cells #[.int .i64 6,.slice ra r.length rc,.int .i64 ast,.slice (some ⟨b,off,none⟩) 1 sc,.int .i64 0,.int .i64 (-1),.bool z,.int .i64 ix,.string nm] 25)).alloc (.cells #[(.func (Fn.func 55) #[] #[.pointer (some ⟨w.heap.size,0,none⟩)])] 114)).alloc (.cells #[.int .i64 4,.slice none 0 0,.int .i64 0,.int .i64 0,.bool false,.slice none 0 0] 110)) (.pointer none) (.pointer (some ⟨w.heap.size+2,0,none⟩)) 69 (w.heap.size+3) ea3.symm
 have hz1a:((w.alloc (.cells #[.int .i64 6,.slice ra r.length rc,.int .i64 ast,.slice (some ⟨b,off,none⟩) 1 sc,.int .i64 0,.int .i64 (-1),.bool z,.int .i64 ix,.string nm] 25)).alloc (.cells #[.nilFunc] 114)).cell? ⟨w.heap.size+1,0,none⟩=some .nilFunc:=by rw [←ea1];exact (zyI (w.alloc (.cells #[.int .i64 6,.slice ra r.length rc,.int .i64 ast,.slice (some ⟨b,off,none⟩) 1 sc,.int .i64 0,.int .i64 (-1),.bool z,.int .i64 ix,.string nm] 25)) 114 [.nilFunc]).cell 0
 have hz1b:((w.alloc (.cells #[.int .i64 6,.slice ra r.length rc,.int .i64 ast,.slice (some ⟨b,off,none⟩) 1 sc,.int .i64 0,.int .i64 (-1),.bool z,.int .i64 ix,.string nm] 25)).alloc (.cells #[.nilFunc] 114)).frozen? ⟨w.heap.size+1,0,none⟩=false:=by rw [←ea1];exact (zyI (w.alloc (.cells #[.int .i64 6,.slice ra r.length rc,.int .i64 ast,.slice (some ⟨b,off,none⟩) 1 sc,.int .i64 0,.int .i64 (-1),.bool z,.int .i64 ix,.string nm] 25)) 114 [.nilFunc]).frozen 0
 have hz2a:((((w.alloc (.cells #[.int .i64 6,.slice ra r.length rc,.int .i64 ast,.slice (some ⟨b,off,none⟩) 1 sc,.int .i64 0,.int .i64 (-1),.bool z,.int .i64 ix,.string nm] 25)).alloc (.cells #[(.func (Fn.func 55) #[] #[.pointer (some ⟨w.heap.size,0,none⟩)])] 114)).alloc (.cells #[.int .i64 4,.slice none 0 0,.int .i64 0,.int .i64 0,.bool false,.slice none 0 0] 110)).alloc (.cells #[.pointer none] 69)).cell? ⟨w.heap.size+3,0,none⟩=some (.pointer none):=by rw [←ea3];exact (zyI (((w.alloc (.cells #[.int .i64 6,.slice ra r.length rc,.int .i64 ast,.slice (some ⟨b,off,none⟩) 1 sc,.int .i64 0,.int .i64 (-1),.bool z,.int .i64 ix,.string nm] 25)).alloc (.cells #[(.func (Fn.func 55) #[] #[.pointer (some ⟨w.heap.size,0,none⟩)])] 114)).alloc (.cells #[.int .i64 4,.slice none 0 0,.int .i64 0,.int .i64 0,.bool false,.slice none 0 0] 110)) 69 [.pointer none]).cell 0
 have hz2b:((((w.alloc (.cells #[.int .i64 6,.slice ra r.length rc,.int .i64 ast,.slice (some ⟨b,off,none⟩) 1 sc,.int .i64 0,.int .i64 (-1),.bool z,.int .i64 ix,.string nm] 25)).alloc (.cells #[(.func (Fn.func 55) #[] #[.pointer (some ⟨w.heap.size,0,none⟩)])] 114)).alloc (.cells #[.int .i64 4,.slice none 0 0,.int .i64 0,.int .i64 0,.bool false,.slice none 0 0] 110)).alloc (.cells #[.pointer none] 69)).frozen? ⟨w.heap.size+3,0,none⟩=false:=by rw [←ea3];exact (zyI (((w.alloc (.cells #[.int .i64 6,.slice ra r.length rc,.int .i64 ast,.slice (some ⟨b,off,none⟩) 1 sc,.int .i64 0,.int .i64 (-1),.bool z,.int .i64 ix,.string nm] 25)).alloc (.cells #[(.func (Fn.func 55) #[] #[.pointer (some ⟨w.heap.size,0,none⟩)])] 114)).alloc (.cells #[.int .i64 4,.slice none 0 0,.int .i64 0,.int .i64 0,.bool false,.slice none 0 0] 110)) 69 [.pointer none]).frozen 0
 have qx:((((w.alloc (.cells #[.int .i64 6,.slice ra r.length rc,.int .i64 ast,.slice (some ⟨b,off,none⟩) 1 sc,.int .i64 0,.int .i64 (-1),.bool z,.int .i64 ix,.string nm] 25)).alloc (.cells #[(.func (Fn.func 55) #[] #[.pointer (some ⟨w.heap.size,0,none⟩)])] 114)).alloc (.cells #[.int .i64 4,.slice none 0 0,.int .i64 0,.int .i64 0,.bool false,.slice none 0 0] 110)).alloc (.cells #[.pointer (some ⟨w.heap.size+2,0,none⟩)] 69)).cell? ⟨w.heap.size+1,0,none⟩=some (.func (Fn.func 55) #[] #[.pointer (some ⟨w.heap.size,0,none⟩)]):=hro.cx
 have qo:((((w.alloc (.cells #[.int .i64 6,.slice ra r.length rc,.int .i64 ast,.slice (some ⟨b,off,none⟩) 1 sc,.int .i64 0,.int .i64 (-1),.bool z,.int .i64 ix,.string nm] 25)).alloc (.cells #[(.func (Fn.func 55) #[] #[.pointer (some ⟨w.heap.size,0,none⟩)])] 114)).alloc (.cells #[.int .i64 4,.slice none 0 0,.int .i64 0,.int .i64 0,.bool false,.slice none 0 0] 110)).alloc (.cells #[.pointer (some ⟨w.heap.size+2,0,none⟩)] 69)).cell? ⟨w.heap.size+3,0,none⟩=some (.pointer (some ⟨w.heap.size+2,0,none⟩)):=hro.co
 clear hU0 hsb hnb hall hL hS h hN hxr hcx hb1 hro hbk hax ih
 simp only [Ta.val,Ta.vals,List.length_singleton]
 go_enter Tryz.func29,Tryz.ntmps29
 go_wp2_with fail
 generalize ((((w.alloc (.cells #[.int .i64 6,.slice ra r.length rc,.int .i64 ast,.slice (some ⟨b,off,none⟩) 1 sc,.int .i64 0,.int .i64 (-1),.bool z,.int .i64 ix,.string nm] 25)).alloc (.cells #[(.func (Fn.func 55) #[] #[.pointer (some ⟨w.heap.size,0,none⟩)])] 114)).alloc (.cells #[.int .i64 4,.slice none 0 0,.int .i64 0,.int .i64 0,.bool false,.slice none 0 0] 110)).alloc (.cells #[.pointer (some ⟨w.heap.size+2,0,none⟩)] 69))=w1 at *
 clear q4 q5 qx qo hset1 hset2 hz1a hz1b hz2a hz2b ea1 ea3
 refine (ufx_any x IH.out HAX.out S w.heap.size b off sc w1 HRO.out.x).mono ?_
 rintro e w2 ⟨u,rfl,hsh,hut,hb2⟩
 have r6:w2.cell? ⟨w.heap.size,6,none⟩=some (.bool z):=(hb2.cell (p:=⟨w.heap.size,6,none⟩) HRO.out.ne.2.2.2.1).trans q6
 have HLO:=zzA (ufloop_any (-2) z u S w.heap.size w1.heap.size w2 r6 hut hb2.size (fun c hc=>zzQ (HRO.out.x.sub c hc) hb2.size))
 have HSH:=zzA hsh
 have HB2:=zzA hb2
 clear hsh hut hb2 r6 q6
 simp only []
 go_wp2_with fail
 refine HLO.out.mono ?_
 rintro e w3 ⟨y,rfl,hsh3,hut3,hb3⟩
 have HSH3:=zzA hsh3
 have HUT3:=zzA hut3
 have HB3:=zzA hb3
 clear hsh3 hut3 hb3
 simp only []
 go_wp2_with fail
 go_ret
 refine ⟨_,rfl,by rw [HSH3.out,HSH.out,HU.out,repU,if_pos rfl,if_pos rfl],HUT3.out.low (by have:=HB1.out.size;omega),HB1.out.trans ((HB2.out.trans (HB3.out.mono HB2.out.size)).mono HB1.out.size)⟩
theorem unf_cat (r:List (Int × Int)) (ra:Option Addr) (rc:Nat) (ast:Int) (x:Ta) (sa:Option Addr) (sc:Nat) (mn mx:Int) (z:Bool) (ix:Int) (nm:ByteArray) (hm:mx=mn) (hn:0≤mn) (ih:UfOk x):UfOk (Ta.mk 6 r ra rc ast [x] sa sc mn mx z ix nm):=by
 subst hm
 obtain ⟨m0,rfl⟩:∃ m0:Nat,mx=(m0:Int):=⟨mx.toNat,by omega⟩
 have hm1:((m0:Int)==-1)=false:=zzh.2 (by omega)
 intro S w h hall hS
 obtain ⟨i0,hi,hz0,hz1,hz2⟩:=info_parts node_info
 obtain ⟨-,hN,hL⟩:=h.parts
 obtain ⟨hnb,hsb⟩:=(allB_iff _).1 hall
 rw [Ta.tr_subs] at hsb
 have hax:allB x.tr=true:=hsb _ (by simp [Ta.subs])
 have hbd:0≤((m0:Int):Int)∧((m0:Int):Int)≤1000∧(((m0:Int):Int)=-1∨((m0:Int):Int)≤(m0:Int)∧((m0:Int):Int)≤1000):=by
  unfold Ta.tr nodeB nodeF at hnb
  simp only [reduceIte,Int.reduceEq,zzc,Bool.or_eq_true,zzg,zyE] at hnb
  first | exact ⟨by omega,by omega,.inl rfl⟩ | exact ⟨hnb.2.2.1,hnb.2.2.2.1,hnb.2.2.2.2⟩
 obtain ⟨b,off,rfl,hSb,_⟩:=hN.2.2.2.2 (by simp)
 have hcx:∀ j,j < 9→w.cell? ⟨b,off+j,none⟩=x.vals[j]?:=fun j hj=>by
  have:=RdA.node hN (l:=[x]) (j:=0) (t:=x) rfl hj
  rwa [Nat.zero_mul,zzw] at this
 have hxr:RT w S x:=hL x (by simp)
 obtain ⟨hb1,hs1,hbk,hro⟩:=rep_start S w r ra rc ast (m0:Int) (m0:Int) z ix nm b off sc x hS hSb hcx hxr
 obtain ⟨U0,hU0⟩:∃ U0,U0=unfS (Ta.mk 6 r ra rc ast [x] (some ⟨b,off,none⟩) sc (m0:Int) (m0:Int) z ix nm).tr:=⟨_,rfl⟩
 rw [←hU0]
 have HU:=zzA (show U0=repU (unfS x.tr) (m0:Int) (m0:Int) z from by rw [hU0,Ta.tr,unfS,if_neg (by simp)];rfl)
 have HAX:=zzA hax
 have IH:=zzA ih
 have HS:=zzA hS
 have HB1:=zzA hb1
 have HRO:=zzA hro
 have HBK:=zzA hbk
 have q4:((((w.alloc (.cells #[.int .i64 6,.slice ra r.length rc,.int .i64 ast,.slice (some ⟨b,off,none⟩) 1 sc,.int .i64 (m0:Int),.int .i64 (m0:Int),.bool z,.int .i64 ix,.string nm] 25)).alloc (.cells #[(.func (Fn.func 55) #[] #[.pointer (some ⟨w.heap.size,0,none⟩)])] 114)).alloc (.cells #[.int .i64 4,.slice none 0 0,.int .i64 0,.int .i64 0,.bool false,.slice none 0 0] 110)).alloc (.cells #[.pointer (some ⟨w.heap.size+2,0,none⟩)] 69)).cell? ⟨w.heap.size,4,none⟩=some (.int .i64 (m0:Int)):=hbk.cell 4
 have q5:((((w.alloc (.cells #[.int .i64 6,.slice ra r.length rc,.int .i64 ast,.slice (some ⟨b,off,none⟩) 1 sc,.int .i64 (m0:Int),.int .i64 (m0:Int),.bool z,.int .i64 ix,.string nm] 25)).alloc (.cells #[(.func (Fn.func 55) #[] #[.pointer (some ⟨w.heap.size,0,none⟩)])] 114)).alloc (.cells #[.int .i64 4,.slice none 0 0,.int .i64 0,.int .i64 0,.bool false,.slice none 0 0] 110)).alloc (.cells #[.pointer (some ⟨w.heap.size+2,0,none⟩)] 69)).cell? ⟨w.heap.size,5,none⟩=some (.int .i64 (m0:Int)):=hbk.cell 5
 have q6:((((w.alloc (.cells #[.int .i64 6,.slice ra r.length rc,.int .i64 ast,.slice (some ⟨b,off,none⟩) 1 sc,.int .i64 (m0:Int),.int .i64 (m0:Int),.bool z,.int .i64 ix,.string nm] 25)).alloc (.cells #[(.func (Fn.func 55) #[] #[.pointer (some ⟨w.heap.size,0,none⟩)])] 114)).alloc (.cells #[.int .i64 4,.slice none 0 0,.int .i64 0,.int .i64 0,.bool false,.slice none 0 0] 110)).alloc (.cells #[.pointer (some ⟨w.heap.size+2,0,none⟩)] 69)).cell? ⟨w.heap.size,6,none⟩=some (.bool z):=hbk.cell 6
 have ea1:(w.alloc (.cells #[.int .i64 6,.slice ra r.length rc,.int .i64 ast,.slice (some ⟨b,off,none⟩) 1 sc,.int .i64 (m0:Int),.int .i64 (m0:Int),.bool z,.int .i64 ix,.string nm] 25)).heap.size=w.heap.size+1:=by simp
 have ea3:(((w.alloc (.cells #[.int .i64 6,.slice ra r.length rc,.int .i64 ast,.slice (some ⟨b,off,none⟩) 1 sc,.int .i64 (m0:Int),.int .i64 (m0:Int),.bool z,.int .i64 ix,.string nm] 25)).alloc (.cells #[(.func (Fn.func 55) #[] #[.pointer (some ⟨w.heap.size,0,none⟩)])] 114)).alloc (.cells #[.int .i64 4,.slice none 0 0,.int .i64 0,.int .i64 0,.bool false,.slice none 0 0] 110)).heap.size=w.heap.size+3:=by simp
 have hset1:=alloc_set (w.alloc (.cells #[.int .i64 6,.slice ra r.length rc,.int .i64 ast,.slice (some ⟨b,off,none⟩) 1 sc,.int .i64 (m0:Int),.int .i64 (m0:Int),.bool z,.int .i64 ix,.string nm] 25)) .nilFunc (.func (Fn.func 55) #[] #[.pointer (some ⟨w.heap.size,0,none⟩)]) 114 (w.heap.size+1) ea1.symm
 have hset2:=alloc_set (((w.alloc (.cells #[.int .i64 6,.slice ra r.length rc,.int .i64 ast,.slice (some ⟨b,off,none⟩) 1 sc,.int .i64 (m0:Int),.int .i64 (m0:Int),.bool z,.int .i64 ix,.string nm] 25)).alloc (.cells #[(.func (Fn.func 55) #[] #[.pointer (some ⟨w.heap.size,0,none⟩)])] 114)).alloc (.cells #[.int .i64 4,.slice none 0 0,.int .i64 0,.int .i64 0,.bool false,.slice none 0 0] 110)) (.pointer none) (.pointer (some ⟨w.heap.size+2,0,none⟩)) 69 (w.heap.size+3) ea3.symm
 have hz1a:((w.alloc (.cells #[.int .i64 6,.slice ra r.length rc,.int .i64 ast,.slice (some ⟨b,off,none⟩) 1 sc,.int .i64 (m0:Int),.int .i64 (m0:Int),.bool z,.int .i64 ix,.string nm] 25)).alloc (.cells #[.nilFunc] 114)).cell? ⟨w.heap.size+1,0,none⟩=some .nilFunc:=by rw [←ea1];exact (zyI (w.alloc (.cells #[.int .i64 6,.slice ra r.length rc,.int .i64 ast,.slice (some ⟨b,off,none⟩) 1 sc,.int .i64 (m0:Int),.int .i64 (m0:Int),.bool z,.int .i64 ix,.string nm] 25)) 114 [.nilFunc]).cell 0
 have hz1b:((w.alloc (.cells #[.int .i64 6,.slice ra r.length rc,.int .i64 ast,.slice (some ⟨b,off,none⟩) 1 sc,.int .i64 (m0:Int),.int .i64 (m0:Int),.bool z,.int .i64 ix,.string nm] 25)).alloc (.cells #[.nilFunc] 114)).frozen? ⟨w.heap.size+1,0,none⟩=false:=by rw [←ea1];exact (zyI (w.alloc (.cells #[.int .i64 6,.slice ra r.length rc,.int .i64 ast,.slice (some ⟨b,off,none⟩) 1 sc,.int .i64 (m0:Int),.int .i64 (m0:Int),.bool z,.int .i64 ix,.string nm] 25)) 114 [.nilFunc]).frozen 0
 have hz2a:((((w.alloc (.cells #[.int .i64 6,.slice ra r.length rc,.int .i64 ast,.slice (some ⟨b,off,none⟩) 1 sc,.int .i64 (m0:Int),.int .i64 (m0:Int),.bool z,.int .i64 ix,.string nm] 25)).alloc (.cells #[(.func (Fn.func 55) #[] #[.pointer (some ⟨w.heap.size,0,none⟩)])] 114)).alloc (.cells #[.int .i64 4,.slice none 0 0,.int .i64 0,.int .i64 0,.bool false,.slice none 0 0] 110)).alloc (.cells #[.pointer none] 69)).cell? ⟨w.heap.size+3,0,none⟩=some (.pointer none):=by rw [←ea3];exact (zyI (((w.alloc (.cells #[.int .i64 6,.slice ra r.length rc,.int .i64 ast,.slice (some ⟨b,off,none⟩) 1 sc,.int .i64 (m0:Int),.int .i64 (m0:Int),.bool z,.int .i64 ix,.string nm] 25)).alloc (.cells #[(.func (Fn.func 55) #[] #[.pointer (some ⟨w.heap.size,0,none⟩)])] 114)).alloc (.cells #[.int .i64 4,.slice none 0 0,.int .i64 0,.int .i64 0,.bool false,.slice none 0 0] 110)) 69 [.pointer none]).cell 0
 have hz2b:((((w.alloc (.cells #[.int .i64 6,.slice ra r.length rc,.int .i64 ast,.slice (some ⟨b,off,none⟩) 1 sc,.int .i64 (m0:Int),.int .i64 (m0:Int),.bool z,.int .i64 ix,.string nm] 25)).alloc (.cells #[(.func (Fn.func 55) #[] #[.pointer (some ⟨w.heap.size,0,none⟩)])] 114)).alloc (.cells #[.int .i64 4,.slice none 0 0,.int .i64 0,.int .i64 0,.bool false,.slice none 0 0] 110)).alloc (.cells #[.pointer none] 69)).frozen? ⟨w.heap.size+3,0,none⟩=false:=by rw [←ea3];exact (zyI (((w.alloc (.cells #[.int .i64 6,.slice ra r.length rc,.int .i64 ast,.slice (some ⟨b,off,none⟩) 1 sc,.int .i64 (m0:Int),.int .i64 (m0:Int),.bool z,.int .i64 ix,.string nm] 25)).alloc (.cells #[(.func (Fn.func 55) #[] #[.pointer (some ⟨w.heap.size,0,none⟩)])] 114)).alloc (.cells #[.int .i64 4,.slice none 0 0,.int .i64 0,.int .i64 0,.bool false,.slice none 0 0] 110)) 69 [.pointer none]).frozen 0
 have qx:((((w.alloc (.cells #[.int .i64 6,.slice ra r.length rc,.int .i64 ast,.slice (some ⟨b,off,none⟩) 1 sc,.int .i64 (m0:Int),.int .i64 (m0:Int),.bool z,.int .i64 ix,.string nm] 25)).alloc (.cells #[(.func (Fn.func 55) #[] #[.pointer (some ⟨w.heap.size,0,none⟩)])] 114)).alloc (.cells #[.int .i64 4,.slice none 0 0,.int .i64 0,.int .i64 0,.bool false,.slice none 0 0] 110)).alloc (.cells #[.pointer (some ⟨w.heap.size+2,0,none⟩)] 69)).cell? ⟨w.heap.size+1,0,none⟩=some (.func (Fn.func 55) #[] #[.pointer (some ⟨w.heap.size,0,none⟩)]):=hro.cx
 have qo:((((w.alloc (.cells #[.int .i64 6,.slice ra r.length rc,.int .i64 ast,.slice (some ⟨b,off,none⟩) 1 sc,.int .i64 (m0:Int),.int .i64 (m0:Int),.bool z,.int .i64 ix,.string nm] 25)).alloc (.cells #[(.func (Fn.func 55) #[] #[.pointer (some ⟨w.heap.size,0,none⟩)])] 114)).alloc (.cells #[.int .i64 4,.slice none 0 0,.int .i64 0,.int .i64 0,.bool false,.slice none 0 0] 110)).alloc (.cells #[.pointer (some ⟨w.heap.size+2,0,none⟩)] 69)).cell? ⟨w.heap.size+3,0,none⟩=some (.pointer (some ⟨w.heap.size+2,0,none⟩)):=hro.co
 clear hU0 hsb hnb hall hL hS h hN hxr hcx hb1 hro hbk hax ih
 simp only [Ta.val,Ta.vals,List.length_singleton]
 go_enter Tryz.func29,Tryz.ntmps29
 go_wp2_with fail
 generalize ((((w.alloc (.cells #[.int .i64 6,.slice ra r.length rc,.int .i64 ast,.slice (some ⟨b,off,none⟩) 1 sc,.int .i64 (m0:Int),.int .i64 (m0:Int),.bool z,.int .i64 ix,.string nm] 25)).alloc (.cells #[(.func (Fn.func 55) #[] #[.pointer (some ⟨w.heap.size,0,none⟩)])] 114)).alloc (.cells #[.int .i64 4,.slice none 0 0,.int .i64 0,.int .i64 0,.bool false,.slice none 0 0] 110)).alloc (.cells #[.pointer (some ⟨w.heap.size+2,0,none⟩)] 69))=w1 at *
 have hmb:m0≤1000:=by omega
 clear hset1 hset2 hz1a hz1b hz2a hz2b ea1 ea3
 refine (uftimes_any x IH.out HAX.out S w1 w.heap.size (w.heap.size+1) (w.heap.size+3) (w.heap.size+2) b off sc m0 w1 (.slice none 0 0) [] HRO.out (by simp;omega)).mono ?_
 rintro e w2 ⟨rfl,v',us,hr,hsh⟩
 rw [zzn] at hr
 have hul:us.length=m0:=by have:=congrArg List.length hsh;rwa [shUs_map,zzP,zyC] at this
 obtain ⟨A,c,rfl⟩:=own_shape hr.row.own
 have hne:=hr.ne
 have r4:w2.cell? ⟨w.heap.size,4,none⟩=some (.int .i64 (m0:Int)):=(hr.kept.cell (p:=⟨w.heap.size,4,none⟩) hne.2.2.2.1 (by simp)).trans q4
 have r5:w2.cell? ⟨w.heap.size,5,none⟩=some (.int .i64 (m0:Int)):=(hr.kept.cell (p:=⟨w.heap.size,5,none⟩) hne.2.2.2.1 (by simp)).trans q5
 have ro:=hr.co
 have rn:w2.cell? ⟨w.heap.size+2,5,none⟩=some (.slice A us.length c):=hr.row.blk.cell 5
 rw [hul] at rn
 have HR:=zzA hr
 have HSH:=zzA hsh
 have HUL:=zzA hul
 have hlt:¬((m0:Int) < (m0:Int)):=by omega
 clear hr hsh hul q4 q5 q6 qx qo hne
 simp only []
 have HBW:=zzA (zyH HB1.out HR.out.kept (by simp) HB1.out.size)
 cases m0 with
 | zero =>
  have hbe:Below w2.heap.size w2 (w2.alloc (.cells #[.int .i64 1,.slice none 0 0,.int .i64 0,.int .i64 0,.bool false,.slice none 0 0] 110)):=(zzb _ _).alloc (zzF _) _
  have hbk:=zyI w2 110 [.int .i64 1,.slice none 0 0,.int .i64 0,.int .i64 0,.bool false,.slice none 0 0]
  have hfin:UT (w2.alloc (.cells #[.int .i64 1,.slice none 0 0,.int .i64 0,.int .i64 0,.bool false,.slice none 0 0] 110)) S (Fr w.heap.size [] (w2.alloc (.cells #[.int .i64 1,.slice none 0 0,.int .i64 0,.int .i64 0,.bool false,.slice none 0 0] 110))) (.mk w2.heap.size 1 [] 0 0 false []):=by
   refine ⟨fun n hn=>?_,by simp [Mean.all_subs,Mean.Un.subs,Mean.allU]⟩
   obtain rfl:n=.mk w2.heap.size 1 [] 0 0 false []:=by simpa [Mean.all_subs,Mean.Un.subs,Mean.allU] using hn
   exact ⟨none,0,none,0,⟨HBW.out.size,hbk.lt,by simp⟩,hbk,RdA.none_,RdA.none_⟩
  have HFIN:=zzA hfin
  have HBE:=zzA hbe
  clear hfin hbe hbk
  go_wp2_with fail
  go_ret
  refine ⟨_,rfl,by rw [HU.out];rfl,HFIN.out,HBW.out.trans (HBE.out.mono HBW.out.size)⟩
 | succ m =>
  have hl2:(((m+1:Nat):Int)==0)=false:=zzh.2 (by omega)
  have hdone:=RowU.done (k:=4) (r:=[]) (ra:=none) (rc:=0) (a:=0) (i:=0) (z:=false) (us:=us) (A:=A) (c:=c) HR.out.row RdA.none_ (B0:=w.heap.size) (by have:=HB1.out.size;exact this) (by omega)
  have HDN:=zzA hdone
  clear hdone
  go_wp2_with fail
  go_ret
  refine ⟨_,rfl,?_,HDN.out,HBW.out⟩
  rw [HU.out,shU,HSH.out,repU,if_neg (by omega),if_neg (by omega),if_neg (by omega),zzY]
  rfl
theorem cat2 {w5:World} {S:Nat→Prop} {B B1:Nat} {u5 la:Mean.Un} (hu:UT w5 S (Fr B1 [] w5) u5) (hl:UT w5 S (Fr B [] w5) la) (hd:∀ b∈la.all.map Mean.Un.ad,b < B1) (hB:B≤B1) (hB5:B1≤w5.heap.size) (hS:∀ b,S b→b < w5.heap.size) :
  Below w5.heap.size w5 ((w5.alloc (.cells #[.pointer (some ⟨u5.ad,0,none⟩),.pointer (some ⟨la.ad,0,none⟩)] 69)).alloc (.cells #[.int .i64 4,.slice none 0 0,.int .i64 0,.int .i64 0,.bool false,.slice (some ⟨w5.heap.size,0,none⟩) 2 2] 110))∧UT ((w5.alloc (.cells #[.pointer (some ⟨u5.ad,0,none⟩),.pointer (some ⟨la.ad,0,none⟩)] 69)).alloc (.cells #[.int .i64 4,.slice none 0 0,.int .i64 0,.int .i64 0,.bool false,.slice (some ⟨w5.heap.size,0,none⟩) 2 2] 110)) S (Fr B [] ((w5.alloc (.cells #[.pointer (some ⟨u5.ad,0,none⟩),.pointer (some ⟨la.ad,0,none⟩)] 69)).alloc (.cells #[.int .i64 4,.slice none 0 0,.int .i64 0,.int .i64 0,.bool false,.slice (some ⟨w5.heap.size,0,none⟩) 2 2] 110))) (.mk (w5.heap.size+1) 4 [] 0 0 false [u5,la]):=by
 have hb1:Below w5.heap.size w5 (w5.alloc (.cells #[.pointer (some ⟨u5.ad,0,none⟩),.pointer (some ⟨la.ad,0,none⟩)] 69)):=(zzb _ _).alloc (zzF _) _
 have hb2:Below w5.heap.size w5 ((w5.alloc (.cells #[.pointer (some ⟨u5.ad,0,none⟩),.pointer (some ⟨la.ad,0,none⟩)] 69)).alloc (.cells #[.int .i64 4,.slice none 0 0,.int .i64 0,.int .i64 0,.bool false,.slice (some ⟨w5.heap.size,0,none⟩) 2 2] 110)):=hb1.alloc (by simp) _
 have k1:=(zyI w5 69 [.pointer (some ⟨u5.ad,0,none⟩),.pointer (some ⟨la.ad,0,none⟩)]).alloc (.cells #[.int .i64 4,.slice none 0 0,.int .i64 0,.int .i64 0,.bool false,.slice (some ⟨w5.heap.size,0,none⟩) 2 2] 110)
 have k2:=zyI (w5.alloc (.cells #[.pointer (some ⟨u5.ad,0,none⟩),.pointer (some ⟨la.ad,0,none⟩)] 69)) 110 [.int .i64 4,.slice none 0 0,.int .i64 0,.int .i64 0,.bool false,.slice (some ⟨w5.heap.size,0,none⟩) 2 2]
 rw [show (w5.alloc (.cells #[.pointer (some ⟨u5.ad,0,none⟩),.pointer (some ⟨la.ad,0,none⟩)] 69)).heap.size=w5.heap.size+1 from by simp] at k2
 refine ⟨hb2,?_⟩
 have h1:=(hu.below hS hb2).low hB
 have h2:=hl.below hS hb2
 refine ⟨fun n hn=>?_,?_⟩
 ·rw [Mean.all_subs,Mean.allU_flat] at hn
  rcases zzN.1 hn with rfl | hn
  ·refine ⟨none,0,some ⟨w5.heap.size,0,none⟩,2,⟨show B≤w5.heap.size+1 from by omega,k2.lt,by simp⟩,k2,RdA.none_,⟨zzF _,by decide,rfl,(fun h=>by cases h),fun _=>⟨w5.heap.size,0,rfl,⟨by omega,k1.lt,by simp⟩,fun j v hj=>?_⟩⟩⟩
   rw [zzw,k1.cell];exact hj
  ·simp only [Mean.Un.subs,zzl,List.flatMap_nil,zzY,zzM] at hn
   rcases hn with hn | hn
   ·exact h1.nodes n hn
   ·exact h2.nodes n hn
 ·rw [Mean.all_subs,Mean.allU_flat,zzS]
  simp only [Mean.Un.subs,zzl,List.flatMap_nil,zzY,zzT]
  refine List.nodup_cons.2 ⟨fun hm=>?_,List.nodup_append.2 ⟨hu.nodup,hl.nodup,fun a ha b hb e=>?_⟩⟩
  ·rcases zzM.1 hm with hm | hm
   ·have:=(hu.mem (b:=w5.heap.size+1) hm).2.1;omega
   ·have:=(hl.mem (b:=w5.heap.size+1) hm).2.1;omega
  ·have h3:=(hu.mem ha).1
   have h4:=hd b hb
   omega
end Go.Proofs.YtgkclnmmjedmkaaGreat
