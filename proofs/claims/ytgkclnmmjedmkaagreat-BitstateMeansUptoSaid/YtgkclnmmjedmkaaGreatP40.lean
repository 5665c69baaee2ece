/- simplify.Simplify: both errors and the form. -/
import Derived.Test.YtgkclnmmjedmkaaGreatP21
import Derived.Test.YtgkclnmmjedmkaaGreatP37
import Derived.Test.YtgkclnmmjedmkaaGreatP39
set_option maxRecDepth 100000
set_option maxHeartbeats 2000000
namespace Go.Proofs.YtgkclnmmjedmkaaGreat
open Go.RowKit Tr
theorem node2_ret {fn:Func} {p q:Tmp} (h:fn.results=#[.cell p 25,.tmp q]) (tmps:Array Value) (w:World) (g:Nat) (t:Ta) (hp:tmps.getD p undef=.pointer (some ⟨g,0,none⟩)) (hg:Blk w g 25 t.vals) :
  (results fn tmps).run Tryz.prog w=.ok (.tuple #[t.val,tmps.getD q undef]) w:=by
 obtain ⟨d,hu,hd⟩:=und_node
 have hs:(Tryz.prog.info? 25).map (·.size)=some t.vals.toArray.size:=by rw [size_node,List.size_toArray,Ta.vals_length]
 exact results_cell_tmp_row h tmps w g 25 t.vals.toArray d hp (by simpa using hg) hu hd hs
def fitsB (t:Tr.Tr):Bool:=decide ((reckonS t).size≤200000) && decide ((reckonS t).deep≤10000)
def formV (t:Tr.Tr):Tr.Tr:=if (soundB t && fitsB t)=true then simpleS t else zT.tr
def errV (t:Tr.Tr):Int:=if soundB t=true then (if fitsB t=true then 0 else 3) else 50
theorem simplify_bad (t:Ta) (S:Nat→Prop) (w:World) (h:RT w S t) (hS:∀ b,S b→b < w.heap.size) (hb:soundB t.tr=false) :
  Calls Tryz.prog 18 #[t.val] w fun e w'=>∃ u:Ta,e=.returned (.tuple #[u.val,.int .i64 50])∧u.tr=zT.tr∧RT w' (Fr w.heap.size [] w') u∧Below w.heap.size w w':=by
 cases t with
 | mk k r ra rc ast l sa sc mn mx z ix nm =>
 have hcs:=cs_two w k ra r.length rc ast sa l.length sc mn mx z ix nm
 have HS:=zzA (pSound_any _ S _ (h.below hS hcs.below) (fun b hb=>zzQ (hS b hb) hcs.below.size))
 have hsv:sv (Ta.mk k r ra rc ast l sa sc mn mx z ix nm).tr=.int .i64 50:=by unfold sv;rw [hb];rfl
 rw [hsv] at HS
 have HCS:=zzA hcs
 clear hcs hsv h hS
 simp only [Ta.val,Ta.vals] at HS ⊢
 go_enter Tryz.func18,Tryz.ntmps18
 go_wp2_with fail
 generalize ((w.alloc (.cells #[.int .i64 k,.slice ra r.length rc,.int .i64 ast,.slice sa l.length sc,.int .i64 mn,.int .i64 mx,.bool z,.int .i64 ix,.string nm] 25)).alloc (.cells #[.int .i64 0,.slice none 0 0,.int .i64 0,.slice none 0 0,.int .i64 0,.int .i64 0,.bool false,.int .i64 0,.string ⟨#[]⟩] 25))=w2 at *
 refine HS.out.mono ?_
 rintro e w3 ⟨rfl,hb3⟩
 have HC3:=zzA (HCS.out.bel hb3)
 clear hb3
 obtain ⟨q0,q1,q2,q3,q4,q5,q6,q7,q8⟩:=bc9 (HC3.out.res)
 have fz0:=HC3.out.res.frozen 0
 have fz1:=HC3.out.res.frozen 1
 have fz2:=HC3.out.res.frozen 2
 have fz3:=HC3.out.res.frozen 3
 have fz4:=HC3.out.res.frozen 4
 have fz5:=HC3.out.res.frozen 5
 have fz6:=HC3.out.res.frozen 6
 have fz7:=HC3.out.res.frozen 7
 have fz8:=HC3.out.res.frozen 8
 have fz9:=HC3.out.res.lt
 simp only []
 go_wp2_with fail
 refine zzm (node2_ret rfl _ _ (w.heap.size+1) (Ta.mk 0 [] none 0 0 [] none 0 0 0 false 0 ⟨#[]⟩) rfl (show Blk (((((((((w3.setCell ⟨w.heap.size+1,0,none⟩ (.int .i64 0)).setCell ⟨w.heap.size+1,1,none⟩ (.slice none 0 0)).setCell ⟨w.heap.size+1,2,none⟩ (.int .i64 0)).setCell ⟨w.heap.size+1,3,none⟩ (.slice none 0 0)).setCell ⟨w.heap.size+1,4,none⟩ (.int .i64 0)).setCell ⟨w.heap.size+1,5,none⟩ (.int .i64 0)).setCell ⟨w.heap.size+1,6,none⟩ (.bool false)).setCell ⟨w.heap.size+1,7,none⟩ (.int .i64 0)).setCell ⟨w.heap.size+1,8,none⟩ (.string ⟨#[]⟩)) (w.heap.size+1) 25 (Ta.mk 0 [] none 0 0 [] none 0 0 0 false 0 ⟨#[]⟩).vals from (((((((((HC3.out.res.set_ 0 (.int .i64 0)).set_ 1 (.slice none 0 0)).set_ 2 (.int .i64 0)).set_ 3 (.slice none 0 0)).set_ 4 (.int .i64 0)).set_ 5 (.int .i64 0)).set_ 6 (.bool false)).set_ 7 (.int .i64 0)).set_ 8 (.string ⟨#[]⟩)))) rfl ?_
 refine ⟨Ta.mk 0 [] none 0 0 [] none 0 0 0 false 0 ⟨#[]⟩,rfl,rfl,((show RT w3 (Fr w.heap.size [w.heap.size+1] w3) zT from RT.of ⟨RdA.none_,by simp,by simp,by decide⟩ RdA.none_ (by simp))).fr_kept (kept9 w3 (w.heap.size+1) 0 (.int .i64 0) (.slice none 0 0) (.int .i64 0) (.slice none 0 0) (.int .i64 0) (.int .i64 0) (.bool false) (.int .i64 0) (.string ⟨#[]⟩)) (by simp) (by simp),zyH HC3.out.below (kept9 w3 (w.heap.size+1) 0 (.int .i64 0) (.slice none 0 0) (.int .i64 0) (.slice none 0 0) (.int .i64 0) (.int .i64 0) (.bool false) (.int .i64 0) (.string ⟨#[]⟩)) (by intro b hb;simp at hb;omega) HC3.out.below.size⟩
theorem simplify_big (t:Ta) (S:Nat→Prop) (w:World) (h:RT w S t) (hS:∀ b,S b→b < w.heap.size) (hb:soundB t.tr=true) (hf:fitsB t.tr=false) :
  Calls Tryz.prog 18 #[t.val] w fun e w'=>∃ u:Ta,e=.returned (.tuple #[u.val,.int .i64 3])∧u.tr=zT.tr∧RT w' (Fr w.heap.size [] w') u∧Below w.heap.size w w':=by
 cases t with
 | mk k r ra rc ast l sa sc mn mx z ix nm =>
 have hcs:=cs_two w k ra r.length rc ast sa l.length sc mn mx z ix nm
 have HS:=zzA (pSound_any _ S _ (h.below hS hcs.below) (fun b hb=>zzQ (hS b hb) hcs.below.size))
 have hsv:sv (Ta.mk k r ra rc ast l sa sc mn mx z ix nm).tr=.int .i64 0:=by unfold sv;rw [hb];rfl
 rw [hsv] at HS
 have HCS:=zzA hcs
 have hal:allB (Ta.mk k r ra rc ast l sa sc mn mx z ix nm).tr=true:=by unfold soundB at hb;simp only [zzc] at hb;exact hb.1.1
 have HRK:=zzA (fun u hbu=>reckon_any (Ta.mk k r ra rc ast l sa sc mn mx z ix nm) hal S u (h.below hS hbu) (fun b hb'=>zzQ (hS b hb') (Below.size hbu)))
 have hft:fitsB (Ta.mk k r ra rc ast l sa sc mn mx z ix nm).tr=(decide ((reckonS (Ta.mk k r ra rc ast l sa sc mn mx z ix nm).tr).size≤200000) && decide ((reckonS (Ta.mk k r ra rc ast l sa sc mn mx z ix nm).tr).deep≤10000)):=rfl
 rw [hft] at hf
 clear hcs hsv h hS hal hb hft
 obtain ⟨f,hff⟩:∃ f,f=reckonS (Ta.mk k r ra rc ast l sa sc mn mx z ix nm).tr:=⟨_,rfl⟩
 rw [←hff] at HRK hf
 clear hff
 simp only [Ta.val,Ta.vals,fv,fvals] at HS HRK ⊢
 have hor:200000 < f.size∨(¬200000 < f.size∧10000 < f.deep):=by
  by_cases h1:f.size≤200000
  ·rw [decide_eq_true h1,Bool.true_and,decide_eq_false_iff_not] at hf;exact .inr ⟨by omega,by omega⟩
  ·exact .inl (by omega)
 clear hf
 rcases hor with h1 | ⟨h1,h2⟩
 ·go_enter Tryz.func18,Tryz.ntmps18
  go_wp2_with fail
  generalize ((w.alloc (.cells #[.int .i64 k,.slice ra r.length rc,.int .i64 ast,.slice sa l.length sc,.int .i64 mn,.int .i64 mx,.bool z,.int .i64 ix,.string nm] 25)).alloc (.cells #[.int .i64 0,.slice none 0 0,.int .i64 0,.slice none 0 0,.int .i64 0,.int .i64 0,.bool false,.int .i64 0,.string ⟨#[]⟩] 25))=w2 at *
  refine HS.out.mono ?_
  rintro e w3 ⟨rfl,hb3⟩
  have HC3:=zzA (HCS.out.bel hb3)
  clear hb3
  obtain ⟨t0,t1,t2,t3,t4,t5,t6,t7,t8⟩:=bc9 (HC3.out.node)
  simp only []
  go_wp2_with fail
  refine (HRK.out w3 HC3.out.below).mono ?_
  rintro e w4 ⟨rfl,hb4⟩
  have HC4:=zzA (HC3.out.bel hb4)
  clear hb4 t0 t1 t2 t3 t4 t5 t6 t7 t8
  have HC5:=zzA (HC4.out.bel (wq:=(w4.alloc (.cells #[.int .i64 f.kind,.int .i64 f.size,.int .i64 f.deep,.int .i64 f.subs] 93))) ((zzb _ _).alloc (zzF _) _))
  obtain ⟨q0,q1,q2,q3,q4,q5,q6,q7,q8⟩:=bc9 (HC5.out.res)
  have fz0:=HC5.out.res.frozen 0
  have fz1:=HC5.out.res.frozen 1
  have fz2:=HC5.out.res.frozen 2
  have fz3:=HC5.out.res.frozen 3
  have fz4:=HC5.out.res.frozen 4
  have fz5:=HC5.out.res.frozen 5
  have fz6:=HC5.out.res.frozen 6
  have fz7:=HC5.out.res.frozen 7
  have fz8:=HC5.out.res.frozen 8
  have fz9:=HC5.out.res.lt
  simp only []
  go_wp2_with fail
  refine zzm (node2_ret rfl _ _ (w.heap.size+1) (Ta.mk 0 [] none 0 0 [] none 0 0 0 false 0 ⟨#[]⟩) rfl (show Blk ((((((((((w4.alloc (.cells #[.int .i64 f.kind,.int .i64 f.size,.int .i64 f.deep,.int .i64 f.subs] 93)).setCell ⟨w.heap.size+1,0,none⟩ (.int .i64 0)).setCell ⟨w.heap.size+1,1,none⟩ (.slice none 0 0)).setCell ⟨w.heap.size+1,2,none⟩ (.int .i64 0)).setCell ⟨w.heap.size+1,3,none⟩ (.slice none 0 0)).setCell ⟨w.heap.size+1,4,none⟩ (.int .i64 0)).setCell ⟨w.heap.size+1,5,none⟩ (.int .i64 0)).setCell ⟨w.heap.size+1,6,none⟩ (.bool false)).setCell ⟨w.heap.size+1,7,none⟩ (.int .i64 0)).setCell ⟨w.heap.size+1,8,none⟩ (.string ⟨#[]⟩)) (w.heap.size+1) 25 (Ta.mk 0 [] none 0 0 [] none 0 0 0 false 0 ⟨#[]⟩).vals from (((((((((HC5.out.res.set_ 0 (.int .i64 0)).set_ 1 (.slice none 0 0)).set_ 2 (.int .i64 0)).set_ 3 (.slice none 0 0)).set_ 4 (.int .i64 0)).set_ 5 (.int .i64 0)).set_ 6 (.bool false)).set_ 7 (.int .i64 0)).set_ 8 (.string ⟨#[]⟩)))) rfl ?_
  refine ⟨Ta.mk 0 [] none 0 0 [] none 0 0 0 false 0 ⟨#[]⟩,rfl,rfl,((show RT _ (Fr w.heap.size [w.heap.size+1] _) zT from RT.of ⟨RdA.none_,by simp,by simp,by decide⟩ RdA.none_ (by simp))).fr_kept (kept9 (w4.alloc (.cells #[.int .i64 f.kind,.int .i64 f.size,.int .i64 f.deep,.int .i64 f.subs] 93)) (w.heap.size+1) 0 (.int .i64 0) (.slice none 0 0) (.int .i64 0) (.slice none 0 0) (.int .i64 0) (.int .i64 0) (.bool false) (.int .i64 0) (.string ⟨#[]⟩)) (by simp) (by simp),zyH HC5.out.below (kept9 (w4.alloc (.cells #[.int .i64 f.kind,.int .i64 f.size,.int .i64 f.deep,.int .i64 f.subs] 93)) (w.heap.size+1) 0 (.int .i64 0) (.slice none 0 0) (.int .i64 0) (.slice none 0 0) (.int .i64 0) (.int .i64 0) (.bool false) (.int .i64 0) (.string ⟨#[]⟩)) (by intro b hb;simp at hb;omega) HC5.out.below.size⟩
 ·go_enter Tryz.func18,Tryz.ntmps18
  go_wp2_with fail
  generalize ((w.alloc (.cells #[.int .i64 k,.slice ra r.length rc,.int .i64 ast,.slice sa l.length sc,.int .i64 mn,.int .i64 mx,.bool z,.int .i64 ix,.string nm] 25)).alloc (.cells #[.int .i64 0,.slice none 0 0,.int .i64 0,.slice none 0 0,.int .i64 0,.int .i64 0,.bool false,.int .i64 0,.string ⟨#[]⟩] 25))=w2 at *
  refine HS.out.mono ?_
  rintro e w3 ⟨rfl,hb3⟩
  have HC3:=zzA (HCS.out.bel hb3)
  clear hb3
  obtain ⟨t0,t1,t2,t3,t4,t5,t6,t7,t8⟩:=bc9 (HC3.out.node)
  simp only []
  go_wp2_with fail
  refine (HRK.out w3 HC3.out.below).mono ?_
  rintro e w4 ⟨rfl,hb4⟩
  have HC4:=zzA (HC3.out.bel hb4)
  clear hb4 t0 t1 t2 t3 t4 t5 t6 t7 t8
  have HC5:=zzA (HC4.out.bel (wq:=(w4.alloc (.cells #[.int .i64 f.kind,.int .i64 f.size,.int .i64 f.deep,.int .i64 f.subs] 93))) ((zzb _ _).alloc (zzF _) _))
  obtain ⟨q0,q1,q2,q3,q4,q5,q6,q7,q8⟩:=bc9 (HC5.out.res)
  have fz0:=HC5.out.res.frozen 0
  have fz1:=HC5.out.res.frozen 1
  have fz2:=HC5.out.res.frozen 2
  have fz3:=HC5.out.res.frozen 3
  have fz4:=HC5.out.res.frozen 4
  have fz5:=HC5.out.res.frozen 5
  have fz6:=HC5.out.res.frozen 6
  have fz7:=HC5.out.res.frozen 7
  have fz8:=HC5.out.res.frozen 8
  have fz9:=HC5.out.res.lt
  simp only []
  go_wp2_with fail
  refine zzm (node2_ret rfl _ _ (w.heap.size+1) (Ta.mk 0 [] none 0 0 [] none 0 0 0 false 0 ⟨#[]⟩) rfl (show Blk ((((((((((w4.alloc (.cells #[.int .i64 f.kind,.int .i64 f.size,.int .i64 f.deep,.int .i64 f.subs] 93)).setCell ⟨w.heap.size+1,0,none⟩ (.int .i64 0)).setCell ⟨w.heap.size+1,1,none⟩ (.slice none 0 0)).setCell ⟨w.heap.size+1,2,none⟩ (.int .i64 0)).setCell ⟨w.heap.size+1,3,none⟩ (.slice none 0 0)).setCell ⟨w.heap.size+1,4,none⟩ (.int .i64 0)).setCell ⟨w.heap.size+1,5,none⟩ (.int .i64 0)).setCell ⟨w.heap.size+1,6,none⟩ (.bool false)).setCell ⟨w.heap.size+1,7,none⟩ (.int .i64 0)).setCell ⟨w.heap.size+1,8,none⟩ (.string ⟨#[]⟩)) (w.heap.size+1) 25 (Ta.mk 0 [] none 0 0 [] none 0 0 0 false 0 ⟨#[]⟩).vals from (((((((((HC5.out.res.set_ 0 (.int .i64 0)).set_ 1 (.slice none 0 0)).set_ 2 (.int .i64 0)).set_ 3 (.slice none 0 0)).set_ 4 (.int .i64 0)).set_ 5 (.int .i64 0)).set_ 6 (.bool false)).set_ 7 (.int .i64 0)).set_ 8 (.string ⟨#[]⟩)))) rfl ?_
  refine ⟨Ta.mk 0 [] none 0 0 [] none 0 0 0 false 0 ⟨#[]⟩,rfl,rfl,((show RT _ (Fr w.heap.size [w.heap.size+1] _) zT from RT.of ⟨RdA.none_,by simp,by simp,by decide⟩ RdA.none_ (by simp))).fr_kept (kept9 (w4.alloc (.cells #[.int .i64 f.kind,.int .i64 f.size,.int .i64 f.deep,.int .i64 f.subs] 93)) (w.heap.size+1) 0 (.int .i64 0) (.slice none 0 0) (.int .i64 0) (.slice none 0 0) (.int .i64 0) (.int .i64 0) (.bool false) (.int .i64 0) (.string ⟨#[]⟩)) (by simp) (by simp),zyH HC5.out.below (kept9 (w4.alloc (.cells #[.int .i64 f.kind,.int .i64 f.size,.int .i64 f.deep,.int .i64 f.subs] 93)) (w.heap.size+1) 0 (.int .i64 0) (.slice none 0 0) (.int .i64 0) (.slice none 0 0) (.int .i64 0) (.int .i64 0) (.bool false) (.int .i64 0) (.string ⟨#[]⟩)) (by intro b hb;simp at hb;omega) HC5.out.below.size⟩
theorem simplify_ok (t:Ta) (S:Nat→Prop) (w:World) (h:RT w S t) (hS:∀ b,S b→b < w.heap.size) (hb:soundB t.tr=true) (hf:fitsB t.tr=true) :
  Calls Tryz.prog 18 #[t.val] w fun e w'=>∃ u:Ta,e=.returned (.tuple #[u.val,.int .i64 0])∧u.tr=simpleS t.tr∧RT w' (Fr w.heap.size [] w') u∧Below w.heap.size w w':=by
 cases t with
 | mk k r ra rc ast l sa sc mn mx z ix nm =>
 have hcs:=cs_two w k ra r.length rc ast sa l.length sc mn mx z ix nm
 have HS:=zzA (pSound_any _ S _ (h.below hS hcs.below) (fun b hb=>zzQ (hS b hb) hcs.below.size))
 have hsv:sv (Ta.mk k r ra rc ast l sa sc mn mx z ix nm).tr=.int .i64 0:=by unfold sv;rw [hb];rfl
 rw [hsv] at HS
 have HCS:=zzA hcs
 have hal:allB (Ta.mk k r ra rc ast l sa sc mn mx z ix nm).tr=true:=by unfold soundB at hb;simp only [zzc] at hb;exact hb.1.1
 have HRK:=zzA (fun u hbu=>reckon_any (Ta.mk k r ra rc ast l sa sc mn mx z ix nm) hal S u (h.below hS hbu) (fun b hb'=>zzQ (hS b hb') (Below.size hbu)))
 have hft:fitsB (Ta.mk k r ra rc ast l sa sc mn mx z ix nm).tr=(decide ((reckonS (Ta.mk k r ra rc ast l sa sc mn mx z ix nm).tr).size≤200000) && decide ((reckonS (Ta.mk k r ra rc ast l sa sc mn mx z ix nm).tr).deep≤10000)):=rfl
 rw [hft,zzc,zzg,zzg] at hf
 have hfs:=fits_sound hal hf.1 hf.2
 have hsz:size (simpleS (Ta.mk k r ra rc ast l sa sc mn mx z ix nm).tr)≤200000:=by have:=hfs.2;have:=hf.1;omega
 have HSIM:=zzA (fun u hbu=>simple_any (Ta.mk k r ra rc ast l sa sc mn mx z ix nm) S u (h.below hS hbu) (fun b hb'=>zzQ (hS b hb') (Below.size hbu)) hal hsz)
 clear hcs hsv h hS hal hb hft hfs hsz
 obtain ⟨st,hst⟩:∃ q,q=simpleS (Ta.mk k r ra rc ast l sa sc mn mx z ix nm).tr:=⟨_,rfl⟩
 rw [←hst] at HSIM ⊢
 obtain ⟨f,hff⟩:∃ f,f=reckonS (Ta.mk k r ra rc ast l sa sc mn mx z ix nm).tr:=⟨_,rfl⟩
 rw [←hff] at HRK hf
 clear hff hst
 obtain ⟨hf1,hf2⟩:=hf
 have hf3:¬200000 < f.size:=by omega
 have hf4:¬10000 < f.deep:=by omega
 simp only [Ta.val,Ta.vals,fv,fvals] at HS HRK HSIM ⊢
 go_enter Tryz.func18,Tryz.ntmps18
 go_wp2_with fail
 generalize ((w.alloc (.cells #[.int .i64 k,.slice ra r.length rc,.int .i64 ast,.slice sa l.length sc,.int .i64 mn,.int .i64 mx,.bool z,.int .i64 ix,.string nm] 25)).alloc (.cells #[.int .i64 0,.slice none 0 0,.int .i64 0,.slice none 0 0,.int .i64 0,.int .i64 0,.bool false,.int .i64 0,.string ⟨#[]⟩] 25))=w2 at *
 refine HS.out.mono ?_
 rintro e w3 ⟨rfl,hb3⟩
 have HC3:=zzA (HCS.out.bel hb3)
 clear hb3
 obtain ⟨t0,t1,t2,t3,t4,t5,t6,t7,t8⟩:=bc9 (HC3.out.node)
 simp only []
 go_wp2_with fail
 refine (HRK.out w3 HC3.out.below).mono ?_
 rintro e w4 ⟨rfl,hb4⟩
 have HC4:=zzA (HC3.out.bel hb4)
 clear hb4 t0 t1 t2 t3 t4 t5 t6 t7 t8
 have HC5:=zzA (HC4.out.bel (wq:=(w4.alloc (.cells #[.int .i64 f.kind,.int .i64 f.size,.int .i64 f.deep,.int .i64 f.subs] 93))) ((zzb _ _).alloc (zzF _) _))
 obtain ⟨t0,t1,t2,t3,t4,t5,t6,t7,t8⟩:=bc9 (HC5.out.node)
 simp only []
 go_wp2_with fail
 refine (HSIM.out (w4.alloc (.cells #[.int .i64 f.kind,.int .i64 f.size,.int .i64 f.deep,.int .i64 f.subs] 93)) HC5.out.below).mono ?_
 generalize (w4.alloc (.cells #[.int .i64 f.kind,.int .i64 f.size,.int .i64 f.deep,.int .i64 f.subs] 93))=w5 at *
 rintro e w6 ⟨u6,rfl,htr6,hrt6,hb6⟩
 have HC6:=zzA (HC5.out.bel hb6)
 have HRT6:=zzA (hrt6.fr_in (B:=w.heap.size) (L:=[w.heap.size+1]) HC5.out.below.size (by intro x hx;simp at hx;have:=HC5.out.res.lt;omega))
 have HTR6:=zzA htr6
 clear htr6 hrt6 hb6 t0 t1 t2 t3 t4 t5 t6 t7 t8
 obtain ⟨k3,r3,ra3,rc3,a3,l3,sa3,sc3,n3,m3,z3,i3,s3⟩:=u6
 obtain ⟨q0,q1,q2,q3,q4,q5,q6,q7,q8⟩:=bc9 (HC6.out.res)
 have fz0:=HC6.out.res.frozen 0
 have fz1:=HC6.out.res.frozen 1
 have fz2:=HC6.out.res.frozen 2
 have fz3:=HC6.out.res.frozen 3
 have fz4:=HC6.out.res.frozen 4
 have fz5:=HC6.out.res.frozen 5
 have fz6:=HC6.out.res.frozen 6
 have fz7:=HC6.out.res.frozen 7
 have fz8:=HC6.out.res.frozen 8
 have fz9:=HC6.out.res.lt
 simp only []
 go_wp2_with fail
 refine zzm (node2_ret rfl _ _ (w.heap.size+1) (Ta.mk k3 r3 ra3 rc3 a3 l3 sa3 sc3 n3 m3 z3 i3 s3) rfl (show Blk (((((((((w6.setCell ⟨w.heap.size+1,0,none⟩ (.int .i64 k3)).setCell ⟨w.heap.size+1,1,none⟩ (.slice ra3 r3.length rc3)).setCell ⟨w.heap.size+1,2,none⟩ (.int .i64 a3)).setCell ⟨w.heap.size+1,3,none⟩ (.slice sa3 l3.length sc3)).setCell ⟨w.heap.size+1,4,none⟩ (.int .i64 n3)).setCell ⟨w.heap.size+1,5,none⟩ (.int .i64 m3)).setCell ⟨w.heap.size+1,6,none⟩ (.bool z3)).setCell ⟨w.heap.size+1,7,none⟩ (.int .i64 i3)).setCell ⟨w.heap.size+1,8,none⟩ (.string s3)) (w.heap.size+1) 25 (Ta.mk k3 r3 ra3 rc3 a3 l3 sa3 sc3 n3 m3 z3 i3 s3).vals from (((((((((HC6.out.res.set_ 0 (.int .i64 k3)).set_ 1 (.slice ra3 r3.length rc3)).set_ 2 (.int .i64 a3)).set_ 3 (.slice sa3 l3.length sc3)).set_ 4 (.int .i64 n3)).set_ 5 (.int .i64 m3)).set_ 6 (.bool z3)).set_ 7 (.int .i64 i3)).set_ 8 (.string s3)))) rfl ?_
 refine ⟨Ta.mk k3 r3 ra3 rc3 a3 l3 sa3 sc3 n3 m3 z3 i3 s3,rfl,HTR6.out,(HRT6.out).fr_kept (kept9 w6 (w.heap.size+1) 0 (.int .i64 k3) (.slice ra3 r3.length rc3) (.int .i64 a3) (.slice sa3 l3.length sc3) (.int .i64 n3) (.int .i64 m3) (.bool z3) (.int .i64 i3) (.string s3)) (by simp) (by simp),zyH HC6.out.below (kept9 w6 (w.heap.size+1) 0 (.int .i64 k3) (.slice ra3 r3.length rc3) (.int .i64 a3) (.slice sa3 l3.length sc3) (.int .i64 n3) (.int .i64 m3) (.bool z3) (.int .i64 i3) (.string s3)) (by intro b hb;simp at hb;omega) HC6.out.below.size⟩
theorem simplify_any (t:Ta) (S:Nat→Prop) (w:World) (h:RT w S t) (hS:∀ b,S b→b < w.heap.size) :
  Calls Tryz.prog 18 #[t.val] w fun e w'=>∃ u:Ta,e=.returned (.tuple #[u.val,.int .i64 (errV t.tr)])∧u.tr=formV t.tr∧RT w' (Fr w.heap.size [] w') u∧Below w.heap.size w w':=by
 unfold errV formV
 cases hb:soundB t.tr with
 | false=>exact simplify_bad t S w h hS hb
 | true =>
  cases hf:fitsB t.tr with
  | false=>exact simplify_big t S w h hS hb hf
  | true=>exact simplify_ok t S w h hS hb hf
end Go.Proofs.YtgkclnmmjedmkaaGreat
