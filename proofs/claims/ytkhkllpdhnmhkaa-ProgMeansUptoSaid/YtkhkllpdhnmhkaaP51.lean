/- ProgMeans: of every tree and text: from each place of the text the program of the tree finds just the first parse of the tree that begins there, with its captures, or nothing, if there is none. Condition: what comes in holds at most 1048576 values (the second form). -/
import Derived.Test.YtkhkllpdhnmhkaaP26
import Derived.Test.YtkhkllpdhnmhkaaP50
namespace Go.Proofs.Ytkhkllpdhnmhkaa.progMeans
open Go.ChangeShapes Go.WideShapes Go.ChangeAt Go.RowKit
set_option maxRecDepth 100000 in
theorem contract (H:Type) (enc:TypeId × Value→H) (W:World) (base:Nat) (args:Array Value) (ds gs:List (DataW H)) (before:List MemPlace)
  (hval:∀ (j:Nat) t v,Try.f3.params[j]?=some t→args[j]?=some v→Value.okWide Try.prog W .any base t v)
  (hW:DataW.Whole enc Try.prog Try.f3.params.toList Rows.progMeansSpec.vars false W args.toList ds gs before) (hk:Rows.uptoSmall H (ds++gs)=true) :
  Calls Try.prog 3 args W fun e W'=>∃ v,e=.returned v∧Rows.progMeansSpec.post enc Try.prog Try.f3 false true false false W args v W':=by
 have hW':=hW
 obtain ⟨p,q,hA0,hV,rfl,hfz,hnd⟩:=hW
 have hA:DataW.TrodAll enc Try.prog W 0 (fun _=>true) true Try.f3.params.toList args.toList ds p:=hA0
 rw [Try.params3] at hA hval
 obtain ⟨v0,v1,d0,d1,p0,p1,rfl,rfl,rfl,h0,h1⟩:=trodAll_two hA
 obtain ⟨rfl,rfl⟩:=trodVars_none hV
 clear hA0
 simp only [zzY] at hW' hk
 have hs:=small hk
 have hb0:=part_bulk (d:=d0) (l:=[d0,d1]) (by simp)
 obtain ⟨u,rfl,hu⟩:=open_tree (hval 0 25 v0 rfl rfl) h0 (by omega)
 obtain ⟨At,n,c,t,rfl,ht⟩:=open_numbers (hval 1 26 v1 rfl rfl) h1
 have hlt0:∀ x∈p0,x.block < W.heap.size:=fun x hx=>hW'.lt x (by simp [hx])
 have hlt1:∀ x∈p1,x.block < W.heap.size:=fun x hx=>hW'.lt x (by simp [hx])
 cases u with
 | mk k r ra rc ast l sa sc mn mx z ix nm =>
 refine (pm_law k r ra rc ast l sa sc mn mx z ix nm At n c t W hu ht).mono fun e W' ⟨he,hb⟩=>?_
 subst he
 exact ⟨_,rfl,post_of_below (pa:=p0++p1) (pv:=[]) hW' (fun _ _ _=>trodAll_cons_mk (shut_bool Try.underlying4 _) trodAll_mk0)
  (trodAll_mk2 (Below.trod laidOut (by kernel_rfl) (of_decide_eq_true (by kernel_rfl)) h0 hb hlt0) (Below.trod laidOut (by kernel_rfl) (of_decide_eq_true (by kernel_rfl)) h1 hb hlt1)) rfl (by simp) hb⟩
set_option maxRecDepth 100000 in
theorem lifted (os:Os) (started:os.Started) (H:Type) (enc:TypeId × Value→H) (F:Stop.Interp) :
  ReturnsInHanded {} Try.checked os 3 .any ((Rows.OpenSpec.upto Rows.progMeansSpec).pre6 enc Try.prog Try.f3 Rows.progMeansUptoRow.domain false) (((Rows.OpenSpec.upto Rows.progMeansSpec).at F).post enc Try.prog Try.f3 false true false false):=by
 refine returnsInHanded_of_cond (C:=Try.checked) (s:=Rows.OpenSpec.upto Rows.progMeansSpec) (k:=Rows.uptoSmall) rfl own started (by kernel_rfl) Try.func3
  (OpenSpec.witness (enc:=enc) (C:=Try.checked) (s:=Rows.OpenSpec.upto Rows.progMeansSpec) (k:=Rows.uptoSmall) rfl false ⟨#[],#[.agg #[.int .i64 0,.slice none 0 0,.int .i64 0,.slice none 0 0,.int .i64 0,.int .i64 0,.bool false,.int .i64 0,.string ⟨#[]⟩],.slice none 0 0],[]⟩ 8 (by kernel_rfl) (by kernel_rfl) (by kernel_rfl)
   (x:=([.agg [.lit (.int .i64 0),.nil,.lit (.int .i64 0),.nil,.lit (.int .i64 0),.lit (.int .i64 0),.lit (.bool false),.lit (.int .i64 0),.lit (.string [])],.nil],[],[])) (by kernel_rfl) rfl (by kernel_rfl)) ?_
 intro W base args ds gs before hval hW _ hk _
 exact contract H enc W base args ds gs before hval hW hk
theorem over:Rows.progMeansUptoRow.holds Try.pinned (Rows.OpenSpec.upto Rows.progMeansSpec) :=
 OpenClaim.holds_of_cond 3 Try.f3 rfl rfl rfl rfl rfl rfl rfl ⟨rfl,rfl,rfl,rfl,rfl⟩ rfl rfl rfl rfl rfl (by kernel_rfl) Try.func3 (by kernel_rfl)
  (of_decide_eq_true (by kernel_rfl)) (by unfold Func.isWrapper;first | (rw [if_pos (by decide +kernel)];kernel_rfl) | (rw [if_neg (by decide +kernel)];exact ⟨rfl,rfl⟩))
  (fun os started H enc _ F=>lifted os started H enc F)
theorem proved:Rows.ProgMeansUptoSaid :=
 over
#print axioms proved
end Go.Proofs.Ytkhkllpdhnmhkaa.progMeans
