/- prog.Compile: a tree's program. -/
import Derived.Deep.RegionHeld3
import Derived.Test.YtgkclnmmjedmkaaGreatP10
import Derived.Test.YtgkclnmmjedmkaaGreatP40
import Derived.Test.YtgkclnmmjedmkaaGreatP45
set_option maxRecDepth 100000
set_option maxHeartbeats 2000000
namespace Go.Proofs.YtgkclnmmjedmkaaGreat
open Go.RowKit Mach Tr
theorem prog2_ret {fn:Func} {p q:Tmp} (h:fn.results=#[.cell p 32,.tmp q]) (tmps:Array Value) (w:World) (g:Nat) (v0 v1 v2:Value) (hp:tmps.getD p undef=.pointer (some ⟨g,0,none⟩)) (hg:Blk w g 32 [v0,v1,v2]) :
  (results fn tmps).run Tryz.prog w=.ok (.tuple #[.agg #[v0,v1,v2],tmps.getD q undef]) w:=by
 obtain ⟨d,hu,hd⟩:=und_prog
 exact results_cell_tmp_row h tmps w g 32 #[v0,v1,v2] d hp hg hu hd (by rw [size_prog];rfl)
theorem kept3 (w:World) (g:Nat) (x0 x1 x2:Value):Kept w (((w.setCell ⟨g,0,none⟩ x0).setCell ⟨g,1,none⟩ x1).setCell ⟨g,2,none⟩ x2) [g] :=
 (((zyG ⟨g,0,none⟩ x0).trans (zyG ⟨g,1,none⟩ x1)).trans (zyG ⟨g,2,none⟩ x2)).more (by intro b hb;simp at hb;exact .inl (by simp [hb]))
theorem errV_zero {t:Tr.Tr} (h:errV t=0):formV t=simpleS t∧soundB t=true:=by
 unfold errV at h
 cases hs:soundB t with
 | false=>rw [hs] at h;simp at h
 | true =>
  cases hf:fitsB t with
  | false=>rw [hs,hf] at h;simp at h
  | true=>exact ⟨by unfold formV;rw [hs,hf];rfl,rfl⟩
theorem errV_size {t:Tr.Tr} (h:errV t=0):size (simpleS t)≤200000:=by
 have hs:=(errV_zero h).2
 unfold errV at h
 rw [hs,if_pos rfl] at h
 cases hf:fitsB t with
 | false=>rw [hf] at h;simp at h
 | true =>
  unfold fitsB at hf
  rw [zzc,zzg,zzg] at hf
  have:=fits_sound (sound_all hs).1 hf.1 hf.2
  omega
section
variable {w':World} {rb h:Nat} {y v0 v1 v2 v3 v4 v5 v6 v7 v8:Value} {w9:World}
theorem keepB {v0 v1 v2 v3 v4 v5 v6 v7 v8:Value} (hb:Below w9.heap.size w9 w') (h1:rb < w9.heap.size) (h2:h < w9.heap.size)
  (k:w9.cell? ⟨rb,0,none⟩=some y∧w9.cell? ⟨h,0,none⟩=some v0∧w9.cell? ⟨h,1,none⟩=some v1∧w9.cell? ⟨h,2,none⟩=some v2∧w9.cell? ⟨h,3,none⟩=some v3∧w9.cell? ⟨h,4,none⟩=some v4∧w9.cell? ⟨h,5,none⟩=some v5∧w9.cell? ⟨h,6,none⟩=some v6∧w9.cell? ⟨h,7,none⟩=some v7∧w9.cell? ⟨h,8,none⟩=some v8):w'.cell? ⟨rb,0,none⟩=some y∧w'.cell? ⟨h,0,none⟩=some v0∧w'.cell? ⟨h,1,none⟩=some v1∧w'.cell? ⟨h,2,none⟩=some v2∧w'.cell? ⟨h,3,none⟩=some v3∧w'.cell? ⟨h,4,none⟩=some v4∧w'.cell? ⟨h,5,none⟩=some v5∧w'.cell? ⟨h,6,none⟩=some v6∧w'.cell? ⟨h,7,none⟩=some v7∧w'.cell? ⟨h,8,none⟩=some v8:=by
 have e:∀ q,w'.cell? ⟨h,q,none⟩=w9.cell? ⟨h,q,none⟩:=fun q=>hb.cell (p:=⟨h,q,none⟩) h2
 rw [hb.cell (p:=⟨rb,0,none⟩) h1]
 simp only [e]
 exact k
theorem keep9 (x0 x1 x2:Value) (w9:World) (hn:¬(rb=h+1))
  (k:w9.cell? ⟨rb,0,none⟩=some y∧w9.cell? ⟨h,0,none⟩=some v0∧w9.cell? ⟨h,1,none⟩=some v1∧w9.cell? ⟨h,2,none⟩=some v2∧w9.cell? ⟨h,3,none⟩=some v3∧w9.cell? ⟨h,4,none⟩=some v4∧w9.cell? ⟨h,5,none⟩=some v5∧w9.cell? ⟨h,6,none⟩=some v6∧w9.cell? ⟨h,7,none⟩=some v7∧w9.cell? ⟨h,8,none⟩=some v8):(((w9.setCell ⟨h+1,0,none⟩ x0).setCell ⟨h+1,1,none⟩ x1).setCell ⟨h+1,2,none⟩ x2).cell? ⟨rb,0,none⟩=some y∧(((w9.setCell ⟨h+1,0,none⟩ x0).setCell ⟨h+1,1,none⟩ x1).setCell ⟨h+1,2,none⟩ x2).cell? ⟨h,0,none⟩=some v0∧(((w9.setCell ⟨h+1,0,none⟩ x0).setCell ⟨h+1,1,none⟩ x1).setCell ⟨h+1,2,none⟩ x2).cell? ⟨h,1,none⟩=some v1∧(((w9.setCell ⟨h+1,0,none⟩ x0).setCell ⟨h+1,1,none⟩ x1).setCell ⟨h+1,2,none⟩ x2).cell? ⟨h,2,none⟩=some v2∧(((w9.setCell ⟨h+1,0,none⟩ x0).setCell ⟨h+1,1,none⟩ x1).setCell ⟨h+1,2,none⟩ x2).cell? ⟨h,3,none⟩=some v3∧(((w9.setCell ⟨h+1,0,none⟩ x0).setCell ⟨h+1,1,none⟩ x1).setCell ⟨h+1,2,none⟩ x2).cell? ⟨h,4,none⟩=some v4∧(((w9.setCell ⟨h+1,0,none⟩ x0).setCell ⟨h+1,1,none⟩ x1).setCell ⟨h+1,2,none⟩ x2).cell? ⟨h,5,none⟩=some v5∧(((w9.setCell ⟨h+1,0,none⟩ x0).setCell ⟨h+1,1,none⟩ x1).setCell ⟨h+1,2,none⟩ x2).cell? ⟨h,6,none⟩=some v6∧(((w9.setCell ⟨h+1,0,none⟩ x0).setCell ⟨h+1,1,none⟩ x1).setCell ⟨h+1,2,none⟩ x2).cell? ⟨h,7,none⟩=some v7∧(((w9.setCell ⟨h+1,0,none⟩ x0).setCell ⟨h+1,1,none⟩ x1).setCell ⟨h+1,2,none⟩ x2).cell? ⟨h,8,none⟩=some v8:=by
 have f:∀ (a:Addr),a.block≠h+1→(((w9.setCell ⟨h+1,0,none⟩ x0).setCell ⟨h+1,1,none⟩ x1).setCell ⟨h+1,2,none⟩ x2).cell? a=w9.cell? a:=fun a ha=>by
  rw [World.cell?_setCell_far _ _ _ _ (Ne.symm ha),World.cell?_setCell_far _ _ _ _ (Ne.symm ha),World.cell?_setCell_far _ _ _ _ (Ne.symm ha)]
 have e:∀ q,(((w9.setCell ⟨h+1,0,none⟩ x0).setCell ⟨h+1,1,none⟩ x1).setCell ⟨h+1,2,none⟩ x2).cell? ⟨h,q,none⟩=w9.cell? ⟨h,q,none⟩:=fun q=>f _ (by simp)
 rw [f _ (by simpa using hn)]
 simp only [e]
 exact k
end
def cmpE (t:Tr.Tr):Int:=if errV t≠0 then errV t else if 20000 < lenS (formV t)+3 then 3 else 0
def CmpV (w w':World) (t:Tr.Tr) (e:Ending):Prop :=
 ∃ (A:Option Addr) (n c:Nat) (L:List InV) (caps:Int),e=.returned (.tuple #[.agg #[.slice A n c,.int .i64 0,.int .i64 caps],.int .i64 (cmpE t)])∧L.length=n∧RdA w' (Fr w.heap.size [] w') 5 A n c (insRow L)∧(∀ u∈L,RdA w' (Fr w.heap.size [] w') 2 u.A u.n u.c (flat u.I.rng)) ∧
  (cmpE t=0→insL L=progL (simpleS t)∧caps=2+2*greatest t∧L.length≤20000)
theorem compile_bad (k:Int) (r:List (Int × Int)) (ra:Option Addr) (rc:Nat) (ast:Int) (l:List Ta) (sa:Option Addr) (sc:Nat) (mn mx:Int) (z:Bool) (ix:Int) (nm:ByteArray) (S:Nat→Prop) (w:World) (h:RT w S (.mk k r ra rc ast l sa sc mn mx z ix nm)) (hS:∀ b,S b→b < w.heap.size) (hE:errV (Ta.mk k r ra rc ast l sa sc mn mx z ix nm).tr≠0) :
  Calls Tryz.prog 8 #[(Ta.mk k r ra rc ast l sa sc mn mx z ix nm).val] w fun e w'=>CmpV w w' (Ta.mk k r ra rc ast l sa sc mn mx z ix nm).tr e∧Below w.heap.size w w':=by
 have hb2:Below w.heap.size w ((w.alloc (.cells #[.int .i64 k,.slice ra r.length rc,.int .i64 ast,.slice sa l.length sc,.int .i64 mn,.int .i64 mx,.bool z,.int .i64 ix,.string nm] 25)).alloc (.cells #[.slice none 0 0,.int .i64 0,.int .i64 0] 32)):=two_below w _ _
 have hSI:=simplify_any (Ta.mk k r ra rc ast l sa sc mn mx z ix nm) S ((w.alloc (.cells #[.int .i64 k,.slice ra r.length rc,.int .i64 ast,.slice sa l.length sc,.int .i64 mn,.int .i64 mx,.bool z,.int .i64 ix,.string nm] 25)).alloc (.cells #[.slice none 0 0,.int .i64 0,.int .i64 0] 32)) (h.below hS hb2) (fun b hb=>zzQ (hS b hb) hb2.size)
 have HN2:=zzA ((zyI w 25 [.int .i64 k,.slice ra r.length rc,.int .i64 ast,.slice sa l.length sc,.int .i64 mn,.int .i64 mx,.bool z,.int .i64 ix,.string nm]).alloc (.cells #[.slice none 0 0,.int .i64 0,.int .i64 0] 32))
 have HR2:=zzA (two_blk w (.cells #[.int .i64 k,.slice ra r.length rc,.int .i64 ast,.slice sa l.length sc,.int .i64 mn,.int .i64 mx,.bool z,.int .i64 ix,.string nm] 25) 32 [.slice none 0 0,.int .i64 0,.int .i64 0])
 have HB2:=zzA hb2
 have HSI:=zzA hSI
 have HRT:=zzA h
 have HS:=zzA hS
 obtain ⟨d0,d1,d2,d3,d4,d5,d6,d7,d8⟩:=bc9 (HN2.out)
 clear h hS hb2 hSI
 simp only [Ta.val,Ta.vals] at HSI
 simp only [Ta.val,Ta.vals]
 go_enter Tryz.func8,Tryz.ntmps8
 go_wp2_with fail
 generalize ((w.alloc (.cells #[.int .i64 k,.slice ra r.length rc,.int .i64 ast,.slice sa l.length sc,.int .i64 mn,.int .i64 mx,.bool z,.int .i64 ix,.string nm] 25)).alloc (.cells #[.slice none 0 0,.int .i64 0,.int .i64 0] 32))=w2 at *
 refine HSI.out.mono ?_
 rintro e w3 ⟨u,rfl,hut,hur,hb3⟩
 have HU:=zzA hur
 have HB3:=zzA (HB2.out.trans (hb3.mono HB2.out.size))
 have HRB:=zzA (HR2.out.below hb3 HR2.out.lt)
 have hE2:cmpE (Ta.mk k r ra rc ast l sa sc mn mx z ix nm).tr=errV (Ta.mk k r ra rc ast l sa sc mn mx z ix nm).tr:=by unfold cmpE;rw [if_pos hE]
 have HE2:=zzA hE2
 obtain ⟨ev,hev⟩:∃ q,q=errV (Ta.mk k r ra rc ast l sa sc mn mx z ix nm).tr:=⟨_,rfl⟩
 rw [←hev] at hE ⊢
 have HEV:=zzA hev
 have hEb:(ev==0)=false:=by simpa using hE
 have hEn:(ev != 0)=true:=by simpa using hE
 clear hut hur hb3 hE2 hev
 obtain ⟨k',r',ra',rc',a',l',sa',sc',n',m',z',i',s'⟩:=u
 have HRA:=zzA (HRB.out.alloc (.cells #[.int .i64 k',.slice ra' r'.length rc',.int .i64 a',.slice sa' l'.length sc',.int .i64 n',.int .i64 m',.bool z',.int .i64 i',.string s'] 25))
 have HBA:=zzA (HB3.out.trans (((zzb w3.heap.size w3).alloc (zzF _) (.cells #[.int .i64 k',.slice ra' r'.length rc',.int .i64 a',.slice sa' l'.length sc',.int .i64 n',.int .i64 m',.bool z',.int .i64 i',.string s'] 25)).mono HB3.out.size))
 simp only [Ta.val,Ta.vals]
 have q0:(w3.alloc (.cells #[.int .i64 k',.slice ra' r'.length rc',.int .i64 a',.slice sa' l'.length sc',.int .i64 n',.int .i64 m',.bool z',.int .i64 i',.string s'] 25)).cell? ⟨w.heap.size+1,0,none⟩=some (.slice none 0 0):=HRA.out.cell 0
 have fz0:=HRA.out.frozen 0
 have q1:(w3.alloc (.cells #[.int .i64 k',.slice ra' r'.length rc',.int .i64 a',.slice sa' l'.length sc',.int .i64 n',.int .i64 m',.bool z',.int .i64 i',.string s'] 25)).cell? ⟨w.heap.size+1,1,none⟩=some (.int .i64 0):=HRA.out.cell 1
 have fz1:=HRA.out.frozen 1
 have q2:(w3.alloc (.cells #[.int .i64 k',.slice ra' r'.length rc',.int .i64 a',.slice sa' l'.length sc',.int .i64 n',.int .i64 m',.bool z',.int .i64 i',.string s'] 25)).cell? ⟨w.heap.size+1,2,none⟩=some (.int .i64 0):=HRA.out.cell 2
 have fz2:=HRA.out.frozen 2
 have fz9:=HRA.out.lt
 go_wp2_with fail
 generalize (w3.alloc (.cells #[.int .i64 k',.slice ra' r'.length rc',.int .i64 a',.slice sa' l'.length sc',.int .i64 n',.int .i64 m',.bool z',.int .i64 i',.string s'] 25))=wu at *
 refine zzm (prog2_ret rfl _ _ (w.heap.size+1) (.slice none 0 0) (.int .i64 0) (.int .i64 0) rfl (show Blk (((wu.setCell ⟨w.heap.size+1,0,none⟩ (.slice none 0 0)).setCell ⟨w.heap.size+1,1,none⟩ (.int .i64 0)).setCell ⟨w.heap.size+1,2,none⟩ (.int .i64 0)) (w.heap.size+1) 32 [.slice none 0 0,.int .i64 0,.int .i64 0] from (((HRA.out.set_ 0 (.slice none 0 0)).set_ 1 (.int .i64 0)).set_ 2 (.int .i64 0)))) rfl ?_
 refine ⟨⟨none,0,0,[],0,by rw [HE2.out,HEV.out];rfl,rfl,RdA.none_,by simp,fun h0=>absurd (HE2.out.symm.trans h0) (by rw [←HEV.out];exact hE)⟩,zyH HBA.out (kept3 wu (w.heap.size+1) _ _ _) (by intro b hb;simp at hb;omega) HBA.out.size⟩
theorem compile_ok (k:Int) (r:List (Int × Int)) (ra:Option Addr) (rc:Nat) (ast:Int) (l:List Ta) (sa:Option Addr) (sc:Nat) (mn mx:Int) (z:Bool) (ix:Int) (nm:ByteArray) (S:Nat→Prop) (w:World) (h:RT w S (.mk k r ra rc ast l sa sc mn mx z ix nm)) (hS:∀ b,S b→b < w.heap.size) (hE:errV (Ta.mk k r ra rc ast l sa sc mn mx z ix nm).tr=0) :
  Calls Tryz.prog 8 #[(Ta.mk k r ra rc ast l sa sc mn mx z ix nm).val] w fun e w'=>CmpV w w' (Ta.mk k r ra rc ast l sa sc mn mx z ix nm).tr e∧Below w.heap.size w w':=by
 have hb2:Below w.heap.size w ((w.alloc (.cells #[.int .i64 k,.slice ra r.length rc,.int .i64 ast,.slice sa l.length sc,.int .i64 mn,.int .i64 mx,.bool z,.int .i64 ix,.string nm] 25)).alloc (.cells #[.slice none 0 0,.int .i64 0,.int .i64 0] 32)):=two_below w _ _
 have hSI:=simplify_any (Ta.mk k r ra rc ast l sa sc mn mx z ix nm) S ((w.alloc (.cells #[.int .i64 k,.slice ra r.length rc,.int .i64 ast,.slice sa l.length sc,.int .i64 mn,.int .i64 mx,.bool z,.int .i64 ix,.string nm] 25)).alloc (.cells #[.slice none 0 0,.int .i64 0,.int .i64 0] 32)) (h.below hS hb2) (fun b hb=>zzQ (hS b hb) hb2.size)
 have HN2:=zzA ((zyI w 25 [.int .i64 k,.slice ra r.length rc,.int .i64 ast,.slice sa l.length sc,.int .i64 mn,.int .i64 mx,.bool z,.int .i64 ix,.string nm]).alloc (.cells #[.slice none 0 0,.int .i64 0,.int .i64 0] 32))
 have HR2:=zzA (two_blk w (.cells #[.int .i64 k,.slice ra r.length rc,.int .i64 ast,.slice sa l.length sc,.int .i64 mn,.int .i64 mx,.bool z,.int .i64 ix,.string nm] 25) 32 [.slice none 0 0,.int .i64 0,.int .i64 0])
 have HB2:=zzA hb2
 have HSI:=zzA hSI
 have HRT:=zzA h
 have HS:=zzA hS
 obtain ⟨d0,d1,d2,d3,d4,d5,d6,d7,d8⟩:=bc9 (HN2.out)
 clear h hS hb2 hSI
 simp only [Ta.val,Ta.vals] at HSI
 simp only [Ta.val,Ta.vals]
 go_enter Tryz.func8,Tryz.ntmps8
 go_wp2_with fail
 generalize ((w.alloc (.cells #[.int .i64 k,.slice ra r.length rc,.int .i64 ast,.slice sa l.length sc,.int .i64 mn,.int .i64 mx,.bool z,.int .i64 ix,.string nm] 25)).alloc (.cells #[.slice none 0 0,.int .i64 0,.int .i64 0] 32))=w2 at *
 refine HSI.out.mono ?_
 rintro e w3 ⟨u,rfl,hut,hur,hb3⟩
 have hsf:=errV_zero hE
 rw [hsf.1] at hut
 have hgd:=simple_good _ (sound_all hsf.2).1
 have HE:=zzA hE
 have HGT:=zzA (grt_any (Ta.mk k r ra rc ast l sa sc mn mx z ix nm) S)
 simp only [Ta.val,Ta.vals] at HGT
 have hgr:=sound_great _ (sound_all hsf.2).1
 have HGR:=zzA hgr
 obtain ⟨st,hst⟩:∃ q,q=simpleS (Ta.mk k r ra rc ast l sa sc mn mx z ix nm).tr:=⟨_,rfl⟩
 rw [←hst] at hut hgd
 have HFV:=zzA hsf.1
 have hlay:=lay_any u (by rw [hut];exact hgd)
 rw [LY,hut] at hlay
 have hlen:lenS st≤600000:=by
  have h1:=len_le st hgd.1
  have h2:=errV_size hE
  rw [←hst] at h2
  omega
 have HST:=zzA hst
 have hrt:=hur.mono (S':=fun b=>b < w3.heap.size) (fun b hb=>hb.2.1)
 rw [hE]
 clear hE hsf hut hur hst hgr
 obtain ⟨k',r',ra',rc',a',l',sa',sc',n',m',z',i',s'⟩:=u
 simp only [Ta.val,Ta.vals] at hlay
 simp only [Ta.val,Ta.vals]
 have hb5:Below w3.heap.size w3 ((w3.alloc (.cells #[.int .i64 k',.slice ra' r'.length rc',.int .i64 a',.slice sa' l'.length sc',.int .i64 n',.int .i64 m',.bool z',.int .i64 i',.string s'] 25)).alloc (.cells #[.slice none 0 0] 57)):=two_below w3 _ _
 have hrow:RowI [] (w3.heap.size+1) 57 (.slice none 0 0) [] ((w3.alloc (.cells #[.int .i64 k',.slice ra' r'.length rc',.int .i64 a',.slice sa' l'.length sc',.int .i64 n',.int .i64 m',.bool z',.int .i64 i',.string s'] 25)).alloc (.cells #[.slice none 0 0] 57)):=⟨two_blk w3 _ 57 [.slice none 0 0],World.ownsRow_nil _ _ _ _,by simp,by simp [Value.ownBlock],by simp⟩
 have HNB0:Hid (NB (w3.heap.size+1) w.heap.size 25 [.int .i64 k,.slice ra r.length rc,.int .i64 ast,.slice sa l.length sc,.int .i64 mn,.int .i64 mx,.bool z,.int .i64 ix,.string nm] (.slice none 0 0) ((w3.alloc (.cells #[.int .i64 k',.slice ra' r'.length rc',.int .i64 a',.slice sa' l'.length sc',.int .i64 n',.int .i64 m',.bool z',.int .i64 i',.string s'] 25)).alloc (.cells #[.slice none 0 0] 57))):=zzA ⟨(HN2.out.below hb3 HN2.out.lt).below hb5 (HN2.out.below hb3 HN2.out.lt).lt,by have:=HN2.out.lt;have:=hb3.size;omega,by simp [Value.ownBlock]⟩
 have HNB1:Hid (NB (w3.heap.size+1) (w.heap.size+1) 32 [.slice none 0 0,.int .i64 0,.int .i64 0] (.slice none 0 0) ((w3.alloc (.cells #[.int .i64 k',.slice ra' r'.length rc',.int .i64 a',.slice sa' l'.length sc',.int .i64 n',.int .i64 m',.bool z',.int .i64 i',.string s'] 25)).alloc (.cells #[.slice none 0 0] 57))):=zzA ⟨(HR2.out.below hb3 HR2.out.lt).below hb5 (HR2.out.below hb3 HR2.out.lt).lt,by have:=HR2.out.lt;have:=hb3.size;omega,by simp [Value.ownBlock]⟩
 have HNB2:Hid (NB (w3.heap.size+1) w3.heap.size 25 [.int .i64 k',.slice ra' r'.length rc',.int .i64 a',.slice sa' l'.length sc',.int .i64 n',.int .i64 m',.bool z',.int .i64 i',.string s'] (.slice none 0 0) ((w3.alloc (.cells #[.int .i64 k',.slice ra' r'.length rc',.int .i64 a',.slice sa' l'.length sc',.int .i64 n',.int .i64 m',.bool z',.int .i64 i',.string s'] 25)).alloc (.cells #[.slice none 0 0] 57))):=zzA ⟨(zyI w3 25 [.int .i64 k',.slice ra' r'.length rc',.int .i64 a',.slice sa' l'.length sc',.int .i64 n',.int .i64 m',.bool z',.int .i64 i',.string s']).alloc _,by omega,by simp [Value.ownBlock]⟩
 have HP5:=zzA (put_walk (w3.heap.size+1) 3 0 (.slice none 0 0) [] ((w3.alloc (.cells #[.int .i64 k',.slice ra' r'.length rc',.int .i64 a',.slice sa' l'.length sc',.int .i64 n',.int .i64 m',.bool z',.int .i64 i',.string s'] 25)).alloc (.cells #[.slice none 0 0] 57)) hrow (by simp))
 have HL5:=zzA (LP.refl hrow (zzb _ _))
 have HB3:=zzA (HB2.out.trans (hb3.mono HB2.out.size))
 have HB5:=zzA hb5
 have HB32:=zzA hb3.size
 have HLAY:=zzA hlay
 have HRTU:=zzA hrt
 clear hrow hb3 hb5 hlay hrt hgd
 go_wp2_with fail
 generalize hw5:((w3.alloc (.cells #[.int .i64 k',.slice ra' r'.length rc',.int .i64 a',.slice sa' l'.length sc',.int .i64 n',.int .i64 m',.bool z',.int .i64 i',.string s'] 25)).alloc (.cells #[.slice none 0 0] 57))=w5 at *
 have hs5:w5.heap.size=w3.heap.size+2:=by rw [←hw5];simp
 clear hw5
 generalize hrb:w3.heap.size+1=rb at *
 have hrb3:w3.heap.size < rb:=by omega
 refine HP5.out.mono ?_
 rintro e w6 ⟨rfl,v6,hr6,hk6⟩
 have HL6:=zzA (HL5.out.seq rfl (fun b=>[⟨3,(b:Int)+1,0,0,[]⟩]) (LP.put hr6 hk6))
 obtain ⟨L6,hL6⟩:∃ q,q=([]:List InV)++[⟨⟨3,(([]:List InV).length:Int)+1,0,0,[]⟩,none,0,0⟩]:=⟨_,rfl⟩
 rw [←hL6] at HL6
 have hn6:L6.length=1:=by rw [hL6];rfl
 have HNC0:=zzA (hk6.nb HNB0.out)
 have HNC1:=zzA (hk6.nb HNB1.out)
 have HNC2:=zzA (hk6.nb HNB2.out)
 have hlow6:Below w3.heap.size w3 w6:=HB5.out.trans ((HL5.out.row.low HL6.out.rk).mono (zzo hrb3))
 have HI:=zzA (HLAY.out [] (fun b=>b < w3.heap.size) w6 rb v6 L6 (HRTU.out.below (fun b hb=>hb) hlow6) (fun b hb=>Nat.lt_trans hb hrb3) HL6.out.row (by omega))
 obtain ⟨e0,e1,e2,e3,e4,e5,e6,e7,e8⟩:=bc9 (HNC2.out.blk)
 clear hr6 hk6 hL6 hlow6 HP5 HLAY
 simp only []
 go_wp2_with fail
 refine HI.out.mono ?_
 rintro e w7 ⟨rfl,v7,L7,hL7⟩
 have hle7:=hL7.le
 have HL7:=zzA (HL6.out.seq (by rfl) (codeS st) hL7)
 have HND0:=zzA (hL7.rk.nb HNC0.out)
 have HND1:=zzA (hL7.rk.nb HNC1.out)
 have HP7:=zzA (put_walk rb 3 1 v7 L7 w7 hL7.row (by omega))
 clear hL7 e0 e1 e2 e3 e4 e5 e6 e7 e8 HI
 simp only []
 go_wp2_with fail
 refine HP7.out.mono ?_
 rintro e w8 ⟨rfl,v8,hr8,hk8⟩
 have HL8:=zzA (HL7.out.seq (by simp [code_length];omega) (fun b=>[⟨3,(b:Int)+1,0,1,[]⟩]) (LP.put hr8 hk8))
 obtain ⟨L8,hL8⟩:∃ q,q=L7++[⟨⟨3,(L7.length:Int)+1,0,1,[]⟩,none,0,0⟩]:=⟨_,rfl⟩
 rw [←hL8] at HL8
 have hn8:L8.length=L7.length+1:=by rw [hL8];simp
 have HNE0:=zzA (hk8.nb HND0.out)
 have HNE1:=zzA (hk8.nb HND1.out)
 have HP8:=zzA (end_walk rb ⟨5,0,0,0,[]⟩ rfl v8 L8 w8 HL8.out.row (by omega))
 clear hr8 hk8 hL8 HP7
 simp only []
 go_wp2_with fail
 refine HP8.out.mono ?_
 rintro e w9 ⟨rfl,v9,hr9,hk9⟩
 have HL9:=zzA (HL8.out.seq (by simp [code_length];omega) (fun _=>[⟨5,0,0,0,[]⟩]) (LP.put hr9 hk9))
 obtain ⟨L9,hL9⟩:∃ q,q=L8++[⟨⟨5,0,0,0,[]⟩,none,0,0⟩]:=⟨_,rfl⟩
 rw [←hL9] at HL9
 have hn9:L9.length=L8.length+1:=by rw [hL9];simp
 have HNF0:=zzA (hk9.nb HNE0.out)
 have HNF1:=zzA (hk9.nb HNE1.out)
 clear hr9 hk9 hL9 HP8
 have HFU:=zzA (full_any rb v9 L9 w9 HL9.out.row)
 simp only []
 go_wp2_with fail
 refine HFU.out.mono ?_
 rintro e wn ⟨rfl,hwn⟩
 subst wn
 simp only []
 have HB9:Hid (Below w.heap.size w w9):=zzA (HB3.out.trans ((HB5.out.trans ((HL5.out.row.low HL9.out.rk).mono (zzo hrb3))).mono HB3.out.size))
 have hle9:=HL9.out.le
 have HN6:=zzA hn6
 have HN8:=zzA hn8
 have HN9:=zzA hn9
 have HS5:=zzA hs5
 have hh9:=HNF1.out.blk.lt
 clear hn6 hn8 hn9 hs5 hrb
 by_cases hfl:20000 < L9.length
 ·have hd:decide (20000 < L9.length)=true:=by simpa using hfl
  rw [hd]
  have hce:cmpE (Ta.mk k r ra rc ast l sa sc mn mx z ix nm).tr=3:=by
   unfold cmpE
   rw [if_neg (by rw [HE.out];simp),HFV.out,←HST.out,if_pos (by simp at hle9;omega)]
  have q0:w9.cell? ⟨w.heap.size+1,0,none⟩=some (.slice none 0 0):=HNF1.out.blk.cell 0
  have fz0:=HNF1.out.blk.frozen 0
  have q1:w9.cell? ⟨w.heap.size+1,1,none⟩=some (.int .i64 0):=HNF1.out.blk.cell 1
  have fz1:=HNF1.out.blk.frozen 1
  have q2:w9.cell? ⟨w.heap.size+1,2,none⟩=some (.int .i64 0):=HNF1.out.blk.cell 2
  have fz2:=HNF1.out.blk.frozen 2
  have fz9:=HNF1.out.blk.lt
  go_wp2_with fail
  refine zzm (prog2_ret rfl _ _ (w.heap.size+1) (.slice none 0 0) (.int .i64 0) (.int .i64 0) rfl (show Blk (((w9.setCell ⟨w.heap.size+1,0,none⟩ (.slice none 0 0)).setCell ⟨w.heap.size+1,1,none⟩ (.int .i64 0)).setCell ⟨w.heap.size+1,2,none⟩ (.int .i64 0)) (w.heap.size+1) 32 [.slice none 0 0,.int .i64 0,.int .i64 0] from (((HNF1.out.blk.set_ 0 (.slice none 0 0)).set_ 1 (.int .i64 0)).set_ 2 (.int .i64 0)))) rfl ?_
  refine ⟨⟨none,0,0,[],0,by rw [hce];rfl,rfl,RdA.none_,by simp,fun h0=>absurd (hce.symm.trans h0) (by decide)⟩,zyH HB9.out (kept3 w9 (w.heap.size+1) _ _ _) (by intro b hb;simp at hb;omega) HB9.out.size⟩
 ·have hd:decide (20000 < L9.length)=false:=by simpa using hfl
  rw [hd]
  have hl9:=HL9.out.length (by simp [code_length];omega) (by omega)
  have hprog:insL L9=progL st:=by
   rw [HL9.out.ok (by omega)]
   unfold progL
   simp only [zyF,zzi,zzn,insL,zzt]
   have e1:(((([]:List InV).length+(0+1+lenS st):Nat):Int)+1)=((lenS st+2:Nat):Int):=by simp;omega
   rw [e1]
   rfl
  have hce:cmpE (Ta.mk k r ra rc ast l sa sc mn mx z ix nm).tr=0:=by
   unfold cmpE
   rw [if_neg (by rw [HE.out];simp),HFV.out,←HST.out,if_neg (by simp at hl9;omega)]
  obtain ⟨A9,c9,rfl⟩:=own_shape HL9.out.row.own
  have HPR:=zzA hprog
  have hbd:=bdrewN HB9.out 1
  have HGC:=zzA (HGT.out w9.drew (HRT.out.below HS.out hbd) (fun b hb=>zzQ (HS.out b hb) hbd.size))
  obtain ⟨gt,hgt⟩:∃ q,q=greatest (Ta.mk k r ra rc ast l sa sc mn mx z ix nm).tr:=⟨_,rfl⟩
  have hg0:=HGR.out.1
  have hg1:=HGR.out.2.1
  rw [←hgt] at hg0 hg1
  have hGC:=HGC.out
  rw [←hgt] at hGC
  have HGC:=zzA hGC
  have hw1:IntKind.i64.wrap (2*gt)=2*gt:=wrI (by omega)
  have hw2:IntKind.i64.wrap (2+2*gt)=2+2*gt:=wrI (by omega)
  have hrn:¬(rb=w.heap.size+1):=fun e=>HNF1.out.ne e.symm
  have hrn2:¬(rb=w.heap.size):=fun e=>HNF0.out.ne e.symm
  have HGE:=zzA hgt
  have kA:w9.drew.cell? ⟨rb,0,none⟩=some (.slice A9 L9.length c9)∧w9.drew.cell? ⟨w.heap.size,0,none⟩=some (.int .i64 k)∧w9.drew.cell? ⟨w.heap.size,1,none⟩=some (.slice ra r.length rc)∧w9.drew.cell? ⟨w.heap.size,2,none⟩=some (.int .i64 ast)∧w9.drew.cell? ⟨w.heap.size,3,none⟩=some (.slice sa l.length sc)∧w9.drew.cell? ⟨w.heap.size,4,none⟩=some (.int .i64 mn)∧w9.drew.cell? ⟨w.heap.size,5,none⟩=some (.int .i64 mx)∧w9.drew.cell? ⟨w.heap.size,6,none⟩=some (.bool z)∧w9.drew.cell? ⟨w.heap.size,7,none⟩=some (.int .i64 ix)∧w9.drew.cell? ⟨w.heap.size,8,none⟩=some (.string nm):=⟨HL9.out.row.blk.cell 0,HNF0.out.blk.cell 0,HNF0.out.blk.cell 1,HNF0.out.blk.cell 2,HNF0.out.blk.cell 3,HNF0.out.blk.cell 4,HNF0.out.blk.cell 5,HNF0.out.blk.cell 6,HNF0.out.blk.cell 7,HNF0.out.blk.cell 8⟩
  have hrbl:=HL9.out.row.blk.lt
  have HBD:=zzA hbd
  clear hprog hl9 hgt hGC hbd
  go_wp2_with fail
  go_region_held3 (fun w'=>w'.cell? ⟨rb,0,none⟩=some (.slice A9 L9.length c9)∧w'.cell? ⟨w.heap.size,0,none⟩=some (.int .i64 k)∧w'.cell? ⟨w.heap.size,1,none⟩=some (.slice ra r.length rc)∧w'.cell? ⟨w.heap.size,2,none⟩=some (.int .i64 ast)∧w'.cell? ⟨w.heap.size,3,none⟩=some (.slice sa l.length sc)∧w'.cell? ⟨w.heap.size,4,none⟩=some (.int .i64 mn)∧w'.cell? ⟨w.heap.size,5,none⟩=some (.int .i64 mx)∧w'.cell? ⟨w.heap.size,6,none⟩=some (.bool z)∧w'.cell? ⟨w.heap.size,7,none⟩=some (.int .i64 ix)∧w'.cell? ⟨w.heap.size,8,none⟩=some (.string nm)) (first | with_reducible exact kA | with_reducible exact kB | exact keep9 _ _ _ _ hrn kB) (first | (go_at_call 23;refine HGC.out.mono ?_;rintro e wx ⟨rfl,hbx⟩;have HBX:=zzA hbx;have kB:wx.cell? ⟨rb,0,none⟩=some (.slice A9 L9.length c9)∧wx.cell? ⟨w.heap.size,0,none⟩=some (.int .i64 k)∧wx.cell? ⟨w.heap.size,1,none⟩=some (.slice ra r.length rc)∧wx.cell? ⟨w.heap.size,2,none⟩=some (.int .i64 ast)∧wx.cell? ⟨w.heap.size,3,none⟩=some (.slice sa l.length sc)∧wx.cell? ⟨w.heap.size,4,none⟩=some (.int .i64 mn)∧wx.cell? ⟨w.heap.size,5,none⟩=some (.int .i64 mx)∧wx.cell? ⟨w.heap.size,6,none⟩=some (.bool z)∧wx.cell? ⟨w.heap.size,7,none⟩=some (.int .i64 ix)∧wx.cell? ⟨w.heap.size,8,none⟩=some (.string nm):=keepB hbx hrbl (Nat.lt_trans (Nat.lt_succ_self _) hh9) kA;have HRX:=zzA ((HNF1.out.blk.drew).below hbx hh9);have q0:wx.cell? ⟨w.heap.size+1,0,none⟩=some (.slice none 0 0):=HRX.out.cell 0;have q1:wx.cell? ⟨w.heap.size+1,1,none⟩=some (.int .i64 0):=HRX.out.cell 1;have q2:wx.cell? ⟨w.heap.size+1,2,none⟩=some (.int .i64 0):=HRX.out.cell 2;have fz0:=HRX.out.frozen 0;have fz1:=HRX.out.frozen 1;have fz2:=HRX.out.frozen 2;clear hbx;simp only []))
  have hr1:w.heap.size+1 < rb:=by have h1:=HR2.out.lt;have h2:=HB32.out;omega
  have hwr:w.heap.size≤rb:=by omega
  have hwr0:True:=trivial
  have hx1:∀ {n c size:Nat} {A:Option Addr} {xs:List Value} {L':List Nat},RdA w9 (Fr rb (L'++[w.heap.size+1]) w9) size A n c xs→RdA (((wx.setCell ⟨w.heap.size+1,0,none⟩ (.slice A9 L9.length c9)).setCell ⟨w.heap.size+1,1,none⟩ (.int .i64 0)).setCell ⟨w.heap.size+1,2,none⟩ (.int .i64 (2+2*gt))) (Fr w.heap.size [] (((wx.setCell ⟨w.heap.size+1,0,none⟩ (.slice A9 L9.length c9)).setCell ⟨w.heap.size+1,1,none⟩ (.int .i64 0)).setCell ⟨w.heap.size+1,2,none⟩ (.int .i64 (2+2*gt)))) size A n c xs:=fun h=>by
   have h1:RdA w9 (Fr w.heap.size [w.heap.size+1] w9) _ _ _ _ _:=h.mono fun b hb=>⟨zzU hwr hb.1,hb.2.1,fun hm=>hb.2.2 (zzV _ hm)⟩
   exact (h1.fr_below (w':=wx) ((bdrewN (zzb w9.heap.size w9) 1).trans HBX.out)).fr_kept (kept3 wx (w.heap.size+1) _ _ _) (fun b hb=>.inl hb) (by simp)
  have hoo:RdA w9 (Fr rb ([]++[w.heap.size+1]) w9) 5 A9 L9.length c9 (insRow L9):=by
   obtain ⟨A',c',he,hra⟩:=RdA.of_own (L:=[]++[w.heap.size+1]) HL9.out.row.own (by intro x hx hm;simp at hm;subst hm;exact HNF1.out.sep hx)
   simp only [Value.slice.injEq] at he
   obtain ⟨rfl,-,rfl⟩:=he
   exact hra
  have hee:∀ u∈L9,RdA w9 (Fr rb ([]++[w.heap.size+1]) w9) 2 u.A u.n u.c (flat u.I.rng):=fun u hu=>(HL9.out.row.els u hu).mono fun b hb=>⟨hb.1,hb.2.1,fun hm=>by simp at hm;have:=hb.1;omega⟩
  go_wp2_with fail
  refine zzm (prog2_ret rfl _ _ (w.heap.size+1) (.slice A9 L9.length c9) (.int .i64 0) (.int .i64 (2+2*gt)) rfl (show Blk (((wx.setCell ⟨w.heap.size+1,0,none⟩ (.slice A9 L9.length c9)).setCell ⟨w.heap.size+1,1,none⟩ (.int .i64 0)).setCell ⟨w.heap.size+1,2,none⟩ (.int .i64 (2+2*gt))) (w.heap.size+1) 32 [.slice A9 L9.length c9,.int .i64 0,.int .i64 (2+2*gt)] from (((HRX.out.set_ 0 (.slice A9 L9.length c9)).set_ 1 (.int .i64 0)).set_ 2 (.int .i64 (2+2*gt))))) rfl ?_
  refine ⟨⟨A9,L9.length,c9,L9,2+2*gt,by rw [hce];rfl,rfl,hx1 hoo,fun u hu=>hx1 (hee u hu),fun _=>⟨by rw [HPR.out,HST.out],by rw [HGE.out],by omega⟩⟩,zyH (HBD.out.trans (HBX.out.mono HBD.out.size)) (kept3 wx (w.heap.size+1) _ _ _) (by intro b hb;simp at hb;omega) (HBD.out.trans (HBX.out.mono HBD.out.size)).size⟩
theorem compile_any (t:Ta) (S:Nat→Prop) (w:World) (h:RT w S t) (hS:∀ b,S b→b < w.heap.size) :
  Calls Tryz.prog 8 #[t.val] w fun e w'=>CmpV w w' t.tr e∧Below w.heap.size w w':=by
 cases t with
 | mk k r ra rc ast l sa sc mn mx z ix nm =>
  by_cases hE:errV (Ta.mk k r ra rc ast l sa sc mn mx z ix nm).tr=0
  ·exact compile_ok k r ra rc ast l sa sc mn mx z ix nm S w h hS hE
  ·exact compile_bad k r ra rc ast l sa sc mn mx z ix nm S w h hS hE
end Go.Proofs.YtgkclnmmjedmkaaGreat
