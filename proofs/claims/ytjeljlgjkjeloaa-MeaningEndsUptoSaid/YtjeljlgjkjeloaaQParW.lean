/- meaning.Parses: what stands when the walk begins. -/
import Derived.Test.YtjeljlgjkjeloaaQWalkW
import Derived.Test.YtjeljlgjkjeloaaQUfN
namespace Go.Proofs.Ytjeljlgjkjeloaa
open Go.RowKit Go.Proofs.Ytjeljlgjkjeloaa.Tr

mutual
theorem all_closed : ∀ (u : Mean.Un), ∀ n ∈ u.all, ∀ s ∈ n.subs, s ∈ u.all
  | .mk ad k r a i z l => fun n hn s hs => by
    rw [Mean.Un.all] at hn ⊢
    rcases List.mem_cons.1 hn with rfl | hn
    · exact List.mem_cons_of_mem _ (sub_mem l s hs)
    · exact List.mem_cons_of_mem _ (alls_closed l n hn s hs)
theorem alls_closed : ∀ (l : List Mean.Un), ∀ n ∈ Mean.allU l, ∀ s ∈ n.subs, s ∈ Mean.allU l
  | [] => fun n hn => by rw [Mean.allU] at hn; cases hn
  | u :: l => fun n hn s hs => by
    rw [Mean.allU] at hn ⊢
    rcases List.mem_append.1 hn with hn | hn
    · exact List.mem_append_left _ (all_closed u n hn s hs)
    · exact List.mem_append_right _ (alls_closed l n hn s hs)
theorem sub_mem : ∀ (l : List Mean.Un), ∀ s ∈ l, s ∈ Mean.allU l
  | [] => fun s hs => by cases hs
  | u :: l => fun s hs => by
    rw [Mean.allU]
    rcases List.mem_cons.1 hs with e | hs
    · rw [e]; exact List.mem_append_left _ (by rw [Mean.all_subs]; exact List.mem_cons_self)
    · exact List.mem_append_right _ (sub_mem l s hs)
end
theorem sub_few {l : List Mean.Un} : l.length ≤ (Mean.allU l).length := by
  induction l with
  | nil => simp
  | cons u l ih => rw [Mean.allU, List.length_append, List.length_cons, Mean.all_subs, List.length_cons]; omega
theorem mem_few : ∀ (u : Mean.Un), ∀ n ∈ u.all, n.subs.length ≤ u.all.length := by
  intro u n hn
  -- n's own nodes are among u's
  have h : ∀ (v : Mean.Un), ∀ m ∈ v.all, m.all.length ≤ v.all.length := by
    intro v
    induction v using Mean.Un.rec (motive_2 := fun l => ∀ m ∈ Mean.allU l, m.all.length ≤ (Mean.allU l).length) with
    | mk ad k r a i z l ih =>
      intro m hm
      rw [Mean.Un.all] at hm
      rcases List.mem_cons.1 hm with rfl | hm
      · exact Nat.le_refl _
      · have := ih m hm
        rw [Mean.Un.all, List.length_cons]
        omega
    | nil => rename_i m hm; rw [Mean.allU] at hm; cases hm
    | cons t l ht hl =>
      rename_i m hm
      rw [Mean.allU] at hm ⊢
      rw [List.length_append]
      rcases List.mem_append.1 hm with hm | hm
      · have := ht m hm; omega
      · have := hl m hm; omega
  have h1 := h u n hn
  rw [Mean.all_subs, List.length_cons] at h1
  have := sub_few (l := n.subs)
  omega
/-- What is right of the walker. -/
theorem wf_start {G : Wk} {u : Mean.Un} {t : Tr.Tr} (hU : G.U = u.all) (hsh : shU u = unfS t) (hall : allB t = true) (hd : deep t ≤ 10001) (hz : uz t ≤ 2000) (hNL : G.NL = 2 + 2 * (greatest t).toNat) (hg : 0 ≤ greatest t ∧ greatest t ≤ 500) (hlen : G.t.length = G.nt) (hnt : G.nt ≤ 1099511627776) : G.wf := by
  have hok := all_ok u (g := greatest t) (by rw [hsh]; exact unf_ok t hall)
  have hsz : u.all.length ≤ 1099511627776 := by
    rw [all_len, hsh]
    have h1 := sz_le t 10001 hall hd
    have h2 : 2 * 10001 * uz t ≤ 2 * 10001 * 2000 := Nat.mul_le_mul_left _ hz
    omega
  refine ⟨?_, ?_, ?_, ?_, ?_, ?_, ?_, ?_, hlen, hnt⟩
  · rw [hU]; exact fun n hn s hs => all_closed u n hn s hs
  · intro n hn hk; rw [hU] at hn; exact (hok n hn).2.1 hk
  · intro n hn hk; rw [hU] at hn; exact (hok n hn).2.2.1 hk
  · intro n hn hk
    rw [hU] at hn
    have := (hok n hn).2.2.2.1 hk
    rw [hNL]
    omega
  · intro n hn hk
    rw [hU] at hn
    have := (hok n hn).2.2.2.2 hk
    intro e
    rw [e] at this
    simp at this
  · intro n hn
    rw [hU] at hn
    exact Nat.le_trans (mem_few u n hn) hsz
  · intro n hn; rw [hU] at hn; exact (hok n hn).1
  · rw [hNL]; omega
/-- What stands when nothing was come to yet. -/
def st0 : Mean.St := ⟨fun _ => 0, [], 0⟩
theorem start_ok {G : Wk} {w : World} {u : Mean.Un} {S T : Nat → Prop} (hU : G.U = u.all) (hm : w.heap[G.mb]? = some (.map #[] 0)) (hob : Blk w G.ob 35 [.slice none 0 0]) (hwb : Blk w G.wb 56 [.slice G.At G.nt G.ct, .map (some G.mb)])
    (hab : w.cell? ⟨G.ab, 0, none⟩ = some (.int .i64 (G.at_ : Int))) (hne : G.wb ≠ G.ob ∧ G.ab ≠ G.mb ∧ G.ab ≠ G.ob) (htx : RdA w S 1 G.At G.nt G.ct (G.t.map (Value.int .i64))) (hut : UT w S T u)
    (hS : ∀ b, S b → b < w.heap.size ∧ b ≠ G.mb ∧ b ≠ G.ob) (hT : ∀ b, T b → b < w.heap.size ∧ b ≠ G.mb ∧ b ≠ G.ob) : G.cst w ∧ G.st w st0 := by
  have hout : outB G.ob w = none := by unfold outB; rw [hob.cell 0]; rfl
  have hst : ∀ b, b < w.heap.size → b ≠ G.mb → b ≠ G.ob → G.still w b := fun b h1 h2 h3 => ⟨h1, fun hx => by
    rcases mem_mut.1 hx with e | e | e
    · exact h2 e
    · exact h3 e
    · rw [hout] at e; cases e⟩
  have hmb : G.mb < w.heap.size := (Array.getElem?_eq_some_iff.1 hm).1
  have hwm : G.wb ≠ G.mb := fun e => by
    have := hwb.raw
    rw [e, hm] at this
    cases this
  have hS' : ∀ b, S b → G.still w b := fun b hb => hst b (hS b hb).1 (hS b hb).2.1 (hS b hb).2.2
  have hT' : ∀ b, T b → G.still w b := fun b hb => hst b (hT b hb).1 (hT b hb).2.1 (hT b hb).2.2
  refine ⟨⟨hmb, hob.lt, ⟨hst _ hwb.lt hwm hne.1, hwb⟩, ⟨hst _ (World.block_lt_of_cell? w _ hab) hne.2.1 hne.2.2, hab⟩, htx.mono hS', fun n hn => ?_⟩, ⟨⟨#[], 0, hm, ⟨MapKept.stamped_empty 0, by simp, fun m h => by simp [st0] at h⟩⟩, ⟨.slice none 0 0, [], hob, World.ownsRow_nil _ _ _ _, rfl, by simp⟩, fun m => Nat.le_refl _, by simp [st0]⟩⟩
  rw [hU] at hn
  obtain ⟨ra, rc, sa, sc, h⟩ := hut.nodes n hn
  exact ⟨ra, rc, sa, sc, hT' _ h.ad, h.blk, h.rng.mono hS', h.subs.mono hT'⟩
theorem marks_len (U : List Mean.Un) (P : Nat) : (Mean.marks U P).length = U.length * ((P + 1) * 2) := by
  unfold Mean.marks
  induction U with
  | nil => simp
  | cons n U ih =>
    rw [List.flatMap_cons, List.length_append, ih, List.length_cons, Nat.add_mul U.length 1, Nat.one_mul]
    have : ((List.range (P + 1)).flatMap fun p => [(n.ad, p, false), (n.ad, p, true)]).length = (P + 1) * 2 := by
      generalize P + 1 = Q
      induction Q with
      | zero => rfl
      | succ Q ih => rw [List.range_succ, List.flatMap_append, List.length_append, ih, Nat.succ_mul]; rfl
    omega
/-- The walk comes to an end; what it comes to is a number. -/
theorem walk_ex {G : Wk} {u : Mean.Un} (hU : G.U = u.all) (hwf : G.wf) (hsz : u.all.length ≤ 40004000) (hnt : G.nt ≤ 64) (pl : Nat) (hpl : pl ≤ G.nt) (nt : List Int) :
    ∃ s', Mean.One G.t G.at_ st0 (.beg u pl nt .top) s' ∧ s'.calls ≤ 4611686018427387904 := by
  have hself : u ∈ G.U := by rw [hU, Mean.all_subs]; exact List.mem_cons_self
  have huse : (Mean.Task.beg u pl nt .top).uses G.U G.t.length := ⟨hself, by rw [hwf.len]; exact hpl, trivial⟩
  obtain ⟨s', h1, -⟩ := Mean.one_total (t := G.t) (at_ := G.at_) hwf.closed (Mean.unmet G.U G.t.length st0) 0 st0 (.beg u pl nt .top) (Nat.le_refl _) (Nat.le_refl _) huse
  refine ⟨s', h1, ?_⟩
  have h2 := Mean.one_calls hwf.closed (M := u.all.length + 2) (by omega) (fun n hn => by rw [hU] at hn; have := mem_few u n hn; omega) h1 huse
  have h3 : Mean.unmet G.U G.t.length st0 ≤ u.all.length * ((G.nt + 1) * 2) := by
    rw [← hU, ← hwf.len, ← marks_len]
    exact List.countP_le_length
  have h4 : u.all.length * ((G.nt + 1) * 2) ≤ 40004000 * 130 := Nat.mul_le_mul hsz (by omega)
  have h5 : (u.all.length + 2) * Mean.unmet G.U G.t.length st0 ≤ 40004002 * (40004000 * 130) := Nat.mul_le_mul (by omega) (Nat.le_trans h3 h4)
  have h6 : st0.calls = 0 := rfl
  omega
/-- The walk, in memory. -/
theorem walk_any {G : Wk} {u : Mean.Un} (hU : G.U = u.all) (hwf : G.wf) (hbase : ∀ w, G.cst w → G.base ≤ w.heap.size) (hsz : u.all.length ≤ 40004000) (hnt : G.nt ≤ 64) (pl : Nat) (hpl : pl ≤ G.nt) (nt : List Int) (hlen : nt.length = G.NL) (w : World) (N : Option Addr) (c : Nat)
    (hc : G.cst w) (hs : G.st w st0) (hr : RdA w (G.still w) 1 N G.NL c (nt.map (Value.int .i64))) :
    Calls Try.prog 27 #[.pointer (some ⟨G.wb, 0, none⟩), .pointer (some ⟨u.ad, 0, none⟩), .int .i64 (pl : Int), .slice N G.NL c, .func (Fn.func 29) #[] #[.pointer (some ⟨G.ob, 0, none⟩), .pointer (some ⟨G.ab, 0, none⟩)]] w fun e w' =>
      e = .returned (.tuple #[]) ∧ G.fr w w' ∧ ∃ s', Mean.One G.t G.at_ st0 (.beg u pl nt .top) s' ∧ G.st w' s' := by
  obtain ⟨s', h1, h2⟩ := walk_ex hU hwf hsz hnt pl hpl nt
  have hself : u ∈ G.U := by rw [hU, Mean.all_subs]; exact List.mem_cons_self
  have hd := one_does G hwf hbase h1 ⟨hself, by rw [hwf.len]; exact hpl, trivial⟩ trivial h2
  exact (hd hself hpl hlen w _ N c hc hs hr rfl).mono fun e w' ⟨e1, e2, e3⟩ => ⟨e1, e2, s', h1, e3⟩
end Go.Proofs.Ytjeljlgjkjeloaa
