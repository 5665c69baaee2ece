/- meaning.Parses: what stands when the walk begins. -/
import Derived.Test.YteimpcjafgllpaaQ12
import Derived.Test.YteimpcjafgllpaaQ14
namespace Go.Proofs.Yteimpcjafgllpaa
open Go.RowKit Go.Proofs.Yteimpcjafgllpaa.Tr
mutual
theorem all_closed : ∀ (u : Mean.Un), ∀ n ∈ u.all, ∀ s ∈ n.subs, s ∈ u.all
  | .mk ad k r a i z l => fun n hn s hs => by
    rw [Mean.Un.all] at hn ⊢
    rcases List.mem_cons.1 hn with rfl | hn
    · exact List.mem_cons_of_mem _ (sub_mem l s hs)
    · exact List.mem_cons_of_mem _ (alls_closed l n hn s hs)
theorem alls_closed : ∀ (l : List Mean.Un), ∀ n ∈ Mean.allU l, ∀ s ∈ n.subs, s ∈ Mean.allU l
  | [] => fun n hn => by rw [Mean.allU] at hn; cases hn
  | u :: l => fun n hn s hs => by
    rw [Mean.allU] at hn ⊢
    rcases List.mem_append.1 hn with hn | hn
    · exact List.mem_append_left _ (all_closed u n hn s hs)
    · exact List.mem_append_right _ (alls_closed l n hn s hs)
theorem sub_mem : ∀ (l : List Mean.Un), ∀ s ∈ l, s ∈ Mean.allU l
  | [] => fun s hs => by cases hs
  | u :: l => fun s hs => by
    rw [Mean.allU]
    rcases List.mem_cons.1 hs with e | hs
    · rw [e]; exact List.mem_append_left _ (by rw [Mean.all_subs]; exact List.mem_cons_self)
    · exact List.mem_append_right _ (sub_mem l s hs)
end
theorem sub_few {l : List Mean.Un} : l.length ≤ (Mean.allU l).length := by
  induction l with
  | nil => simp
  | cons u l ih => rw [Mean.allU, List.length_append, List.length_cons, Mean.all_subs, List.length_cons]; omega
theorem mem_few : ∀ (u : Mean.Un), ∀ n ∈ u.all, n.subs.length ≤ u.all.length := by
  intro u n hn
  -- n's own nodes are among u's
  have h : ∀ (v : Mean.Un), ∀ m ∈ v.all, m.all.length ≤ v.all.length := by
    intro v
    induction v using Mean.Un.rec (motive_2 := fun l => ∀ m ∈ Mean.allU l, m.all.length ≤ (Mean.allU l).length) with
    | mk ad k r a i z l ih =>
      intro m hm
      rw [Mean.Un.all] at hm
      rcases List.mem_cons.1 hm with rfl | hm
      · exact Nat.le_refl _
      · have := ih m hm
        rw [Mean.Un.all, List.length_cons]
        omega
    | nil => rename_i m hm; rw [Mean.allU] at hm; cases hm
    | cons t l ht hl =>
      rename_i m hm
      rw [Mean.allU] at hm ⊢
      rw [List.length_append]
      rcases List.mem_append.1 hm with hm | hm
      · have := ht m hm; omega
      · have := hl m hm; omega
  have h1 := h u n hn
  rw [Mean.all_subs, List.length_cons] at h1
  have := sub_few (l := n.subs)
  omega
/-- What is right of the walker. -/
theorem wf_start {G : Wk} {u : Mean.Un} {t : Tr.Tr} (hU : G.U = u.all) (hsh : shU u = unfS t) (hall : allB t = true) (hd : deep t ≤ 10001) (hz : uz t ≤ 2000) (hNL : G.NL = 2 + 2 * (greatest t).toNat) (hg : 0 ≤ greatest t ∧ greatest t ≤ 500) (hlen : G.t.length = G.nt) (hnt : G.nt ≤ 1099511627776) : G.wf := by
  have hok := all_ok u (g := greatest t) (by rw [hsh]; exact unf_ok t hall)
  have hsz : u.all.length ≤ 1099511627776 := by
    rw [all_len, hsh]
    have h1 := sz_le t 10001 hall hd
    have h2 : 2 * 10001 * uz t ≤ 2 * 10001 * 2000 := Nat.mul_le_mul_left _ hz
    omega
  refine ⟨?_, ?_, ?_, ?_, ?_, ?_, ?_, ?_, hlen, hnt⟩
  · rw [hU]; exact fun n hn s hs => all_closed u n hn s hs
  · intro n hn hk; rw [hU] at hn; exact (hok n hn).2.1 hk
  · intro n hn hk; rw [hU] at hn; exact (hok n hn).2.2.1 hk
  · intro n hn hk
    rw [hU] at hn
    have := (hok n hn).2.2.2.1 hk
    rw [hNL]
    omega
  · intro n hn hk
    rw [hU] at hn
    have := (hok n hn).2.2.2.2 hk
    intro e
    rw [e] at this
    simp at this
  · intro n hn
    rw [hU] at hn
    exact Nat.le_trans (mem_few u n hn) hsz
  · intro n hn; rw [hU] at hn; exact (hok n hn).1
  · rw [hNL]; omega
/-- What stands when nothing was come to yet. -/
def st0 : Mean.St := ⟨fun _ => 0, [], 0⟩
theorem start_ok {G : Wk} {w : World} {u : Mean.Un} {S T : Nat → Prop} (hU : G.U = u.all) (hm : w.heap[G.mb]? = some (.map #[] 0)) (hob : Blk w G.ob 33 [.slice none 0 0]) (hwb : Blk w G.wb 50 [.slice G.At G.nt G.ct, .map (some G.mb)])
    (hab : w.cell? ⟨G.ab, 0, none⟩ = some (.int .i64 (G.at_ : Int))) (hne : G.wb ≠ G.ob ∧ G.ab ≠ G.mb ∧ G.ab ≠ G.ob) (htx : RdA w S 1 G.At G.nt G.ct (G.t.map (Value.int .i64))) (hut : UT w S T u)
    (hS : ∀ b, S b → b < w.heap.size ∧ b ≠ G.mb ∧ b ≠ G.ob) (hT : ∀ b, T b → b < w.heap.size ∧ b ≠ G.mb ∧ b ≠ G.ob) : G.cst w ∧ G.st w st0 := by
  have hout : outB G.ob w = none := by unfold outB; rw [hob.cell 0]; rfl
  have hst : ∀ b, b < w.heap.size → b ≠ G.mb → b ≠ G.ob → G.still w b := fun b h1 h2 h3 => ⟨h1, fun hx => by
    rcases mem_mut.1 hx with e | e | e
    · exact h2 e
    · exact h3 e
    · rw [hout] at e; cases e⟩
  have hmb : G.mb < w.heap.size := (Array.getElem?_eq_some_iff.1 hm).1
  have hwm : G.wb ≠ G.mb := fun e => by
    have := hwb.raw
    rw [e, hm] at this
    cases this
  have hS' : ∀ b, S b → G.still w b := fun b hb => hst b (hS b hb).1 (hS b hb).2.1 (hS b hb).2.2
  have hT' : ∀ b, T b → G.still w b := fun b hb => hst b (hT b hb).1 (hT b hb).2.1 (hT b hb).2.2
  refine ⟨⟨hmb, hob.lt, ⟨hst _ hwb.lt hwm hne.1, hwb⟩, ⟨hst _ (World.block_lt_of_cell? w _ hab) hne.2.1 hne.2.2, hab⟩, htx.mono hS', fun n hn => ?_⟩, ⟨⟨#[], 0, hm, ⟨MapKept.stamped_empty 0, by simp, fun m h => by simp [st0] at h⟩⟩, ⟨.slice none 0 0, [], hob, World.ownsRow_nil _ _ _ _, rfl, by simp⟩, fun m => Nat.le_refl _, by simp [st0]⟩⟩
  rw [hU] at hn
  obtain ⟨ra, rc, sa, sc, h⟩ := hut.nodes n hn
  exact ⟨ra, rc, sa, sc, hT' _ h.ad, h.blk, h.rng.mono hS', h.subs.mono hT'⟩
theorem marks_len (U : List Mean.Un) (P : Nat) : (Mean.marks U P).length = U.length * ((P + 1) * 2) := by
  unfold Mean.marks
  induction U with
  | nil => simp
  | cons n U ih =>
    rw [List.flatMap_cons, List.length_append, ih, List.length_cons, Nat.add_mul U.length 1, Nat.one_mul]
    have : ((List.range (P + 1)).flatMap fun p => [(n.ad, p, false), (n.ad, p, true)]).length = (P + 1) * 2 := by
      generalize P + 1 = Q
      induction Q with
      | zero => rfl
      | succ Q ih => rw [List.range_succ, List.flatMap_append, List.length_append, ih, Nat.succ_mul]; rfl
    omega
/-- The walk comes to an end; what it comes to is a number. -/
theorem walk_ex {G : Wk} {u : Mean.Un} (hU : G.U = u.all) (hwf : G.wf) (hsz : u.all.length ≤ 40004000) (hnt : G.nt ≤ 64) (pl : Nat) (hpl : pl ≤ G.nt) (nt : List Int) :
    ∃ s', Mean.One G.t G.at_ st0 (.beg u pl nt .top) s' ∧ s'.calls ≤ 4611686018427387904 := by
  have hself : u ∈ G.U := by rw [hU, Mean.all_subs]; exact List.mem_cons_self
  have huse : (Mean.Task.beg u pl nt .top).uses G.U G.t.length := ⟨hself, by rw [hwf.len]; exact hpl, trivial⟩
  obtain ⟨s', h1, -⟩ := Mean.one_total (t := G.t) (at_ := G.at_) hwf.closed (Mean.unmet G.U G.t.length st0) 0 st0 (.beg u pl nt .top) (Nat.le_refl _) (Nat.le_refl _) huse
  refine ⟨s', h1, ?_⟩
  have h2 := Mean.one_calls hwf.closed (M := u.all.length + 2) (by omega) (fun n hn => by rw [hU] at hn; have := mem_few u n hn; omega) h1 huse
  have h3 : Mean.unmet G.U G.t.length st0 ≤ u.all.length * ((G.nt + 1) * 2) := by
    rw [← hU, ← hwf.len, ← marks_len]
    exact List.countP_le_length
  have h4 : u.all.length * ((G.nt + 1) * 2) ≤ 40004000 * 130 := Nat.mul_le_mul hsz (by omega)
  have h5 : (u.all.length + 2) * Mean.unmet G.U G.t.length st0 ≤ 40004002 * (40004000 * 130) := Nat.mul_le_mul (by omega) (Nat.le_trans h3 h4)
  have h6 : st0.calls = 0 := rfl
  omega
/-- The walk, in memory. -/
theorem walk_any {G : Wk} {u : Mean.Un} (hU : G.U = u.all) (hwf : G.wf) (hbase : ∀ w, G.cst w → G.base ≤ w.heap.size) (hsz : u.all.length ≤ 40004000) (hnt : G.nt ≤ 64) (pl : Nat) (hpl : pl ≤ G.nt) (nt : List Int) (hlen : nt.length = G.NL) (w : World) (N : Option Addr) (c : Nat)
    (hc : G.cst w) (hs : G.st w st0) (hr : RdA w (G.still w) 1 N G.NL c (nt.map (Value.int .i64))) :
    Calls Try.prog 25 #[.pointer (some ⟨G.wb, 0, none⟩), .pointer (some ⟨u.ad, 0, none⟩), .int .i64 (pl : Int), .slice N G.NL c, .func (Fn.func 27) #[] #[.pointer (some ⟨G.ob, 0, none⟩), .pointer (some ⟨G.ab, 0, none⟩)]] w fun e w' =>
      e = .returned (.tuple #[]) ∧ G.fr w w' ∧ ∃ s', Mean.One G.t G.at_ st0 (.beg u pl nt .top) s' ∧ G.st w' s' := by
  obtain ⟨s', h1, h2⟩ := walk_ex hU hwf hsz hnt pl hpl nt
  have hself : u ∈ G.U := by rw [hU, Mean.all_subs]; exact List.mem_cons_self
  have hd := one_does G hwf hbase h1 ⟨hself, by rw [hwf.len]; exact hpl, trivial⟩ trivial h2
  exact (hd hself hpl hlen w _ N c hc hs hr rfl).mono fun e w' ⟨e1, e2, e3⟩ => ⟨e1, e2, s', h1, e3⟩
end Go.Proofs.Yteimpcjafgllpaa
namespace Go.Proofs.Yteimpcjafgllpaa
namespace Mean
open Go.Proofs.Yteimpcjafgllpaa.Mach
section
variable (t : List Int) (at_ : Nat)
/-- Tasks, one after the other, so many steps. -/
def runF : Nat → St → List Task → Option St
  | 0, _, _ => none
  | _ + 1, s, [] => some s
  | n + 1, s, k :: l => runF n (work t at_ s k).1 ((work t at_ s k).2 ++ l)
end
section
variable {t : List Int} {at_ : Nat}
mutual
theorem one_run : ∀ {s s' : St} {k : Task}, One t at_ s k s' → ∃ n, ∀ m l, runF t at_ (n + m) s (k :: l) = runF t at_ m s' l
  | s, s', k, .mk h => by
    obtain ⟨n, hn⟩ := many_run h
    refine ⟨n + 1, fun m l => ?_⟩
    rw [show n + 1 + m = (n + m) + 1 from by omega, runF]
    exact hn m l
theorem many_run : ∀ {s s' : St} {l : List Task}, Many t at_ s l s' → ∃ n, ∀ m l', runF t at_ (n + m) s (l ++ l') = runF t at_ m s' l'
  | s, _, [], .nil => ⟨0, fun m l' => by rw [Nat.zero_add]; rfl⟩
  | s, s', k :: l, .cons h1 h2 => by
    obtain ⟨n1, e1⟩ := one_run h1
    obtain ⟨n2, e2⟩ := many_run h2
    refine ⟨n1 + n2, fun m l' => ?_⟩
    rw [Nat.add_assoc, List.cons_append, e1, e2]
end
theorem run_more {s s' : St} : ∀ {n : Nat} {s : St} {l : List Task}, runF t at_ n s l = some s' → ∀ k, runF t at_ (n + k) s l = some s'
  | 0, _, _, h, _ => by cases h
  | n + 1, s, [], h, k => by rw [show n + 1 + k = (n + k) + 1 from by omega]; exact h
  | n + 1, s, x :: l, h, k => by
    rw [show n + 1 + k = (n + k) + 1 from by omega, runF]
    rw [runF] at h
    exact run_more (s := s) h k
end
end Mean
open Go.Proofs.Yteimpcjafgllpaa.Tr
end Go.Proofs.Yteimpcjafgllpaa
namespace Go.Proofs.Yteimpcjafgllpaa
open Go.Proofs.Yteimpcjafgllpaa.Tr Go.Proofs.Yteimpcjafgllpaa.Mach
namespace Mean
section
variable {t : List Int} {at_ : Nat}
theorem one_fun {s a b : St} {k : Task} (h : One t at_ s k a) (g : One t at_ s k b) : a = b := by
  obtain ⟨n, hn⟩ := one_run h
  obtain ⟨m, hm⟩ := one_run g
  have h1 := run_more (s := s) (hn 1 []) m
  have h2 := run_more (s := s) (hm 1 []) n
  rw [show m + 1 + n = n + 1 + m from by omega] at h2
  rw [h1] at h2
  exact Option.some.inj h2
end
def Un.mapAd (f : Nat → Nat) : Un → Un
  | .mk a k r b i z l => .mk (f a) k r b i z (l.map (Un.mapAd f))
section
variable {f : Nat → Nat}
theorem mapAd_eq (u : Un) : u.mapAd f = .mk (f u.ad) u.kind u.rng u.ast u.ix u.lz (u.subs.map (Un.mapAd f)) := by cases u; rw [Un.mapAd]; rfl
theorem mapAd_ad (u : Un) : (u.mapAd f).ad = f u.ad := by rw [mapAd_eq]; rfl
theorem mapAd_kind (u : Un) : (u.mapAd f).kind = u.kind := by rw [mapAd_eq]; rfl
theorem mapAd_rng (u : Un) : (u.mapAd f).rng = u.rng := by rw [mapAd_eq]; rfl
theorem mapAd_ast (u : Un) : (u.mapAd f).ast = u.ast := by rw [mapAd_eq]; rfl
theorem mapAd_ix (u : Un) : (u.mapAd f).ix = u.ix := by rw [mapAd_eq]; rfl
theorem mapAd_lz (u : Un) : (u.mapAd f).lz = u.lz := by rw [mapAd_eq]; rfl
theorem mapAd_subs (u : Un) : (u.mapAd f).subs = u.subs.map (Un.mapAd f) := by rw [mapAd_eq]; rfl
theorem shU_eq (u : Un) : shU u = .mk u.kind u.rng u.ast u.ix u.lz (u.subs.map shU) := by cases u; rw [shU, shUs_map]; rfl
theorem mapAd_sh : ∀ u : Un, shU (u.mapAd f) = shU u := by
  intro u
  induction u using Un.ind with
  | h u ih =>
    rw [shU_eq, shU_eq u, mapAd_kind, mapAd_rng, mapAd_ast, mapAd_ix, mapAd_lz, mapAd_subs, List.map_map]
    congr 1
    exact List.map_congr_left fun x hx => ih x hx
theorem mapAd_all : ∀ u : Un, (u.mapAd f).all.map Un.ad = (u.all.map Un.ad).map f := by
  intro u
  induction u using Un.ind with
  | h u ih =>
    rw [all_subs, all_subs u, List.map_cons, List.map_cons, List.map_cons, mapAd_ad, mapAd_subs]
    congr 1
    have : ∀ l : List Un, (∀ s ∈ l, (s.mapAd f).all.map Un.ad = (s.all.map Un.ad).map f) → (allU (l.map (Un.mapAd f))).map Un.ad = ((allU l).map Un.ad).map f := by
      intro l
      induction l with
      | nil => intro _; rfl
      | cons s l ihl =>
        intro h
        rw [List.map_cons, allU, allU, List.map_append, List.map_append, List.map_append, h s List.mem_cons_self, ihl fun x hx => h x (List.mem_cons_of_mem _ hx)]
    exact this u.subs ih
end
/-- The form and the blocks make the tree. -/
theorem eq_of : ∀ u v : Un, shU u = shU v → u.all.map Un.ad = v.all.map Un.ad → u = v := by
  intro u
  induction u using Un.ind with
  | h u ih =>
    intro v hs ha
    have hl : ∀ l : List Un, (∀ s ∈ l, ∀ v, shU s = shU v → s.all.map Un.ad = v.all.map Un.ad → s = v) → ∀ l', shUs l = shUs l' → (allU l).map Un.ad = (allU l').map Un.ad → l = l' := by
      intro l
      induction l with
      | nil =>
        intro _ l' h1 _
        cases l' with
        | nil => rfl
        | cons x l' => rw [shUs, shUs] at h1; cases h1
      | cons s l ihl =>
        intro h l' h1 h2
        cases l' with
        | nil => rw [shUs, shUs] at h1; cases h1
        | cons x l' =>
          rw [shUs, shUs] at h1
          injection h1 with e1 e2
          rw [allU, allU, List.map_append, List.map_append] at h2
          have hlen : (s.all.map Un.ad).length = (x.all.map Un.ad).length := by rw [List.length_map, List.length_map, all_len, all_len, e1]
          obtain ⟨g1, g2⟩ := List.append_inj h2 hlen
          rw [h s List.mem_cons_self x e1 g1, ihl (fun y hy => h y (List.mem_cons_of_mem _ hy)) l' e2 g2]
    cases u with
    | mk a k r b i z l =>
      cases v with
      | mk a' k' r' b' i' z' l' =>
        rw [shU, shU] at hs
        injection hs with e1 e2 e3 e4 e5 e6
        rw [Un.all, Un.all, List.map_cons, List.map_cons] at ha
        injection ha with g1 g2
        have g1' : a = a' := g1
        subst e1 e2 e3 e4 e5 g1'
        rw [hl l ih l' e6 g2]
theorem map_onto : ∀ {X Y : List Nat}, X.Nodup → X.length = Y.length → ∃ f : Nat → Nat, X.map f = Y
  | [], [], _, _ => ⟨fun x => x, rfl⟩
  | x :: X, y :: Y, hn, hl => by
    rw [List.nodup_cons] at hn
    obtain ⟨f, hf⟩ := map_onto hn.2 (by simpa using hl)
    refine ⟨fun a => if a = x then y else f a, ?_⟩
    rw [List.map_cons, if_pos rfl, ← hf]
    congr 1
    exact List.map_congr_left fun a ha => if_neg fun e => hn.1 (by rw [← e]; exact ha)
theorem ren_ex {u v : Un} (hs : shU u = shU v) (hu : (u.all.map Un.ad).Nodup) : ∃ f, u.mapAd f = v := by
  obtain ⟨f, hf⟩ := map_onto (X := u.all.map Un.ad) (Y := v.all.map Un.ad) hu (by rw [List.length_map, List.length_map, all_len, all_len, hs])
  exact ⟨f, eq_of _ _ (by rw [mapAd_sh, hs]) (by rw [mapAd_all, hf])⟩
def Kt.mapAd (f : Nat → Nat) : Kt → Kt
  | .top => .top
  | .row l K => .row (l.map (Un.mapAd f)) (K.mapAd f)
  | .grp i K => .grp i (K.mapAd f)
  | .dec n K => .dec (n.mapAd f) (K.mapAd f)
def Task.mapAd (f : Nat → Nat) : Task → Task
  | .beg n pl nt K => .beg (n.mapAd f) pl nt (K.mapAd f)
  | .dcd n pl nt K => .dcd (n.mapAd f) pl nt (K.mapAd f)
  | .go K pl nt => .go (K.mapAd f) pl nt
section
variable {t : List Int} {at_ : Nat} {f : Nat → Nat} {U : List Un}
theorem rowT_map (l : List Un) (pl : Nat) (nt : List Int) (K : Kt) : (rowT l pl nt K).mapAd f = rowT (l.map (Un.mapAd f)) pl nt (K.mapAd f) := by cases l <;> rfl
theorem choose_map (n : Un) (pl : Nat) (nt : List Int) (A K : Kt) : (choose n pl nt A K).map (Task.mapAd f) = choose (n.mapAd f) pl nt (A.mapAd f) (K.mapAd f) := by
  unfold choose
  rw [mapAd_subs, mapAd_lz]
  cases n.subs with
  | nil => rfl
  | cons s l => cases n.lz <;> rfl
theorem first_map (n : Un) (pl : Nat) (nt : List Int) (K : Kt) : (first t n pl nt K).map (Task.mapAd f) = first t (n.mapAd f) pl nt (K.mapAd f) := by
  unfold first
  rw [mapAd_kind, mapAd_rng, mapAd_ast, mapAd_ix, mapAd_subs]
  by_cases k1 : n.kind = 1
  · rw [if_pos k1, if_pos k1]; rfl
  rw [if_neg k1, if_neg k1]
  by_cases k2 : n.kind = 2
  · rw [if_pos k2, if_pos k2]; split <;> rfl
  rw [if_neg k2, if_neg k2]
  by_cases k3 : n.kind = 3
  · rw [if_pos k3, if_pos k3]; split <;> rfl
  rw [if_neg k3, if_neg k3]
  by_cases k4 : n.kind = 4
  · rw [if_pos k4, if_pos k4, List.map_singleton, rowT_map]
  rw [if_neg k4, if_neg k4]
  by_cases k5 : n.kind = 5
  · rw [if_pos k5, if_pos k5, List.map_map, List.map_map]; rfl
  rw [if_neg k5, if_neg k5]
  by_cases k7 : n.kind = 7
  · rw [if_pos k7, if_pos k7]; cases n.subs <;> rfl
  rw [if_neg k7, if_neg k7]
  by_cases m1 : n.kind = -1
  · rw [if_pos m1, if_pos m1]; exact choose_map n pl nt K K
  rw [if_neg m1, if_neg m1]
  by_cases m2 : n.kind = -2
  · rw [if_pos m2, if_pos m2]; rfl
  rw [if_neg m2, if_neg m2]
  by_cases m3 : n.kind = -3
  · rw [if_pos m3, if_pos m3]; cases n.subs <;> rfl
  rw [if_neg m3, if_neg m3]; rfl
/-- The same state, with other blocks. -/
def RenS (f : Nat → Nat) (U : List Un) (s s' : St) : Prop := (∀ n ∈ U, ∀ pl b, s'.met (f n.ad, pl, b) = s.met (n.ad, pl, b)) ∧ s'.out = s.out
theorem ren_mark {s s' : St} (hf : ∀ a ∈ U, ∀ b ∈ U, f a.ad = f b.ad → a.ad = b.ad) (h : RenS f U s s') {n : Un} (hn : n ∈ U) (pl : Nat) (b : Bool) : RenS f U (s.mark (n.ad, pl, b)) (s'.mark (f n.ad, pl, b)) := by
  refine ⟨fun x hx p c => ?_, h.2⟩
  unfold St.mark
  simp only [Prod.mk.injEq]
  have := h.1 x hx p c
  by_cases e : x.ad = n.ad ∧ p = pl ∧ c = b
  · rw [if_pos e, if_pos ⟨by rw [e.1], e.2⟩, this]
  · rw [if_neg e, if_neg fun g => e ⟨hf x hx n hn g.1, g.2⟩, this]
theorem ren_work {s s' : St} (hf : ∀ a ∈ U, ∀ b ∈ U, f a.ad = f b.ad → a.ad = b.ad) (h : RenS f U s s') {k : Task} (hk : k.uses U t.length) : RenS f U (work t at_ s k).1 (work t at_ s' (k.mapAd f)).1 ∧ (work t at_ s' (k.mapAd f)).2 = (work t at_ s k).2.map (Task.mapAd f) := by
  cases k with
  | beg n pl nt K =>
    refine ⟨?_, ?_⟩
    · have := ren_mark hf h hk.1 pl false
      simpa only [work, Task.mapAd, mapAd_ad] using this
    · simp only [work, Task.mapAd, mapAd_ad, h.1 n hk.1]
      split
      · exact (first_map n pl nt K).symm
      · rfl
  | dcd n pl nt K =>
    refine ⟨?_, ?_⟩
    · have := ren_mark hf h hk.1 pl true
      simpa only [work, Task.mapAd, mapAd_ad] using this
    · simp only [work, Task.mapAd, mapAd_ad, h.1 n hk.1]
      split
      · exact (choose_map n pl nt (.dec n K) K).symm
      · rfl
  | go K pl nt =>
    cases K with
    | top =>
      refine ⟨?_, rfl⟩
      simp only [work, Task.mapAd, Kt.mapAd, ended, h.2]
      split
      · exact h
      · exact ⟨h.1, rfl⟩
    | row l K =>
      refine ⟨h, ?_⟩
      show [rowT (l.map (Un.mapAd f)) pl nt (K.mapAd f)] = [(rowT l pl nt K).mapAd f]
      rw [rowT_map]
    | grp i K => exact ⟨h, rfl⟩
    | dec n K => exact ⟨h, rfl⟩
mutual
theorem ren_one (hU : Closed U) (hf : ∀ a ∈ U, ∀ b ∈ U, f a.ad = f b.ad → a.ad = b.ad) : ∀ {s s1 : St} {k : Task}, One t at_ s k s1 → k.uses U t.length → ∀ {s' : St}, RenS f U s s' → ∃ s1', One t at_ s' (k.mapAd f) s1' ∧ RenS f U s1 s1'
  | s, s1, k, .mk h, hk, s', hr => by
    obtain ⟨h1, h2⟩ := ren_work (at_ := at_) hf hr hk
    obtain ⟨s1', h3, h4⟩ := ren_many hU hf h (work_uses hU hk) h1
    exact ⟨s1', .mk (by rw [h2]; exact h3), h4⟩
theorem ren_many (hU : Closed U) (hf : ∀ a ∈ U, ∀ b ∈ U, f a.ad = f b.ad → a.ad = b.ad) : ∀ {s s1 : St} {l : List Task}, Many t at_ s l s1 → (∀ k ∈ l, k.uses U t.length) → ∀ {s' : St}, RenS f U s s' → ∃ s1', Many t at_ s' (l.map (Task.mapAd f)) s1' ∧ RenS f U s1 s1'
  | s, _, [], .nil, _, s', hr => ⟨s', .nil, hr⟩
  | s, s1, k :: l, .cons h1 h2, hk, s', hr => by
    obtain ⟨sa, g1, g2⟩ := ren_one hU hf h1 (hk k List.mem_cons_self) hr
    obtain ⟨sb, g3, g4⟩ := ren_many hU hf h2 (fun x hx => hk x (List.mem_cons_of_mem _ hx)) g2
    exact ⟨sb, .cons g1 g3, g4⟩
end
end
/-- Trees of one form have the same parses. -/
theorem same_out {t : List Int} {at_ pl : Nat} {u v : Un} (hs : shU u = shU v) (hu : (u.all.map Un.ad).Nodup) (hv : (v.all.map Un.ad).Nodup) (hcl : Closed u.all) (hpl : pl ≤ t.length) {nt : List Int} {a b : St} (ha : One t at_ st0 (.beg u pl nt .top) a) (hb : One t at_ st0 (.beg v pl nt .top) b) : b.out = a.out := by
  obtain ⟨f, rfl⟩ := ren_ex hs hu
  have hf : ∀ a ∈ u.all, ∀ b ∈ u.all, f a.ad = f b.ad → a.ad = b.ad := fun x hx y hy e => by
    rw [mapAd_all] at hv
    exact nodup_one hv (List.mem_map_of_mem hx) (List.mem_map_of_mem hy) e
  have hself : u ∈ u.all := by rw [all_subs]; exact List.mem_cons_self
  obtain ⟨s1, h1, h2⟩ := ren_one (U := u.all) hcl hf ha ⟨hself, hpl, trivial⟩ (s' := st0) ⟨fun _ _ _ _ => rfl, rfl⟩
  rw [one_fun hb h1]
  exact h2.2
theorem met_mark {s : St} {m x : Mark} (h : s.met x ≠ 0) : (s.mark m).met x ≠ 0 := by unfold St.mark; simp only []; split <;> omega
theorem met_self (s : St) (m : Mark) : (s.mark m).met m ≠ 0 := by unfold St.mark; simp
theorem met_other {s : St} {m x : Mark} (h : x ≠ m) : (s.mark m).met x = s.met x := by unfold St.mark; simp [h]
end Mean
end Go.Proofs.Yteimpcjafgllpaa
namespace Go.Proofs.Yteimpcjafgllpaa
open Go.Proofs.Yteimpcjafgllpaa.Mach
namespace Mean
/-- A piece of what comes behind. -/
inductive Pc where
  | b (n : Un)
  | g (i : Int)
  | d (n : Un)
def pcs : Kt → List Pc
  | .top => []
  | .row l K => l.map .b ++ pcs K
  | .grp i K => .g i :: pcs K
  | .dec n K => .d n :: pcs K
inductive FTask where
  | beg (n : Un) (pl : Nat) (nt : List Int) (F : List Pc)
  | dcd (n : Un) (pl : Nat) (nt : List Int) (F : List Pc)
  | top (pl : Nat) (nt : List Int)
/-- On to the next that marks, or to the end. -/
def goF : List Pc → Nat → List Int → FTask
  | [], pl, nt => .top pl nt
  | .b n :: F, pl, nt => .beg n pl nt F
  | .g i :: F, pl, nt => goF F pl (nt.set (2 * i + 1).toNat pl)
  | .d n :: F, pl, nt => .dcd n pl nt F
def frT : Task → FTask
  | .beg n pl nt K => .beg n pl nt (pcs K)
  | .dcd n pl nt K => .dcd n pl nt (pcs K)
  | .go K pl nt => goF (pcs K) pl nt
def chooseF (n : Un) (pl : Nat) (nt : List Int) (again F : List Pc) : List FTask :=
  match n.subs with
  | [] => []
  | s :: _ => if n.lz then [goF F pl nt, .beg s pl nt again] else [.beg s pl nt again, goF F pl nt]
def firstF (t : List Int) (n : Un) (pl : Nat) (nt : List Int) (F : List Pc) : List FTask :=
  if n.kind = 1 then [goF F pl nt]
  else if n.kind = 2 then (if pl < t.length ∧ memB n.rng (t.getD pl 0) = true then [goF F (pl + 1) nt] else [])
  else if n.kind = 3 then (if asB t pl n.ast then [goF F pl nt] else [])
  else if n.kind = 4 then [goF (n.subs.map .b ++ F) pl nt]
  else if n.kind = 5 then n.subs.map fun s => .beg s pl nt F
  else if n.kind = 7 then (match n.subs with | [] => [] | s :: _ => [.beg s pl (nt.set (2 * n.ix).toNat pl) (.g n.ix :: F)])
  else if n.kind = -1 then chooseF n pl nt F F
  else if n.kind = -2 then [.dcd n pl nt F]
  else if n.kind = -3 then (match n.subs with | [] => [] | s :: _ => [.beg s pl nt (.d n :: F)])
  else []
section
variable (t : List Int) (at_ : Nat)
def workF (s : St) : FTask → St × List FTask
  | .beg n pl nt F => (s.mark (n.ad, pl, false), if s.met (n.ad, pl, false) = 0 then firstF t n pl nt F else [])
  | .dcd n pl nt F => (s.mark (n.ad, pl, true), if s.met (n.ad, pl, true) = 0 then chooseF n pl nt (.d n :: F) F else [])
  | .top pl nt => (ended at_ s pl nt, [])
mutual
inductive OneF : St → FTask → St → Prop where
  | mk {s s' : St} {k : FTask} : ManyF (workF t at_ s k).1 (workF t at_ s k).2 s' → OneF s k s'
inductive ManyF : St → List FTask → St → Prop where
  | nil {s : St} : ManyF s [] s
  | cons {s s1 s2 : St} {k : FTask} {l : List FTask} : OneF s k s1 → ManyF s1 l s2 → ManyF s (k :: l) s2
end
end
section
variable {t : List Int} {at_ : Nat}
theorem frT_rowT (l : List Un) (pl : Nat) (nt : List Int) (K : Kt) : frT (rowT l pl nt K) = goF (l.map .b ++ pcs K) pl nt := by cases l <;> rfl
theorem choose_fr (n : Un) (pl : Nat) (nt : List Int) (A K : Kt) : (choose n pl nt A K).map frT = chooseF n pl nt (pcs A) (pcs K) := by
  unfold choose chooseF
  cases n.subs with
  | nil => rfl
  | cons s l => cases n.lz <;> rfl
theorem first_fr (n : Un) (pl : Nat) (nt : List Int) (K : Kt) : (first t n pl nt K).map frT = firstF t n pl nt (pcs K) := by
  unfold first firstF
  by_cases k1 : n.kind = 1
  · rw [if_pos k1, if_pos k1]; rfl
  rw [if_neg k1, if_neg k1]
  by_cases k2 : n.kind = 2
  · rw [if_pos k2, if_pos k2]; split <;> rfl
  rw [if_neg k2, if_neg k2]
  by_cases k3 : n.kind = 3
  · rw [if_pos k3, if_pos k3]; split <;> rfl
  rw [if_neg k3, if_neg k3]
  by_cases k4 : n.kind = 4
  · rw [if_pos k4, if_pos k4, List.map_cons, List.map_nil, frT_rowT]
  rw [if_neg k4, if_neg k4]
  by_cases k5 : n.kind = 5
  · rw [if_pos k5, if_pos k5, List.map_map]; rfl
  rw [if_neg k5, if_neg k5]
  by_cases k7 : n.kind = 7
  · rw [if_pos k7, if_pos k7]; cases n.subs <;> rfl
  rw [if_neg k7, if_neg k7]
  by_cases m1 : n.kind = -1
  · rw [if_pos m1, if_pos m1]; exact choose_fr n pl nt K K
  rw [if_neg m1, if_neg m1]
  by_cases m2 : n.kind = -2
  · rw [if_pos m2, if_pos m2]; rfl
  rw [if_neg m2, if_neg m2]
  by_cases m3 : n.kind = -3
  · rw [if_pos m3, if_pos m3]; cases n.subs <;> rfl
  rw [if_neg m3, if_neg m3]; rfl
theorem manyF_one {s s1 : St} {k : FTask} (h : ManyF t at_ s [k] s1) : OneF t at_ s k s1 := by
  cases h with
  | cons h1 h2 => cases h2; exact h1
mutual
theorem one_f : ∀ {s s1 : St} {k : Task}, One t at_ s k s1 → OneF t at_ s (frT k) s1
  | s, s1, .beg n pl nt K, .mk h => .mk (by
      have := many_f h
      simp only [work] at this
      show ManyF t at_ (s.mark (n.ad, pl, false)) (if s.met (n.ad, pl, false) = 0 then firstF t n pl nt (pcs K) else []) s1
      split at this
      · rename_i h0
        rw [if_pos h0, ← first_fr]; exact this
      · rename_i h0
        rw [if_neg h0]; exact this)
  | s, s1, .dcd n pl nt K, .mk h => .mk (by
      have := many_f h
      simp only [work] at this
      show ManyF t at_ (s.mark (n.ad, pl, true)) (if s.met (n.ad, pl, true) = 0 then chooseF n pl nt (.d n :: pcs K) (pcs K) else []) s1
      split at this
      · rename_i h0
        rw [if_pos h0, show Pc.d n :: pcs K = pcs (.dec n K) from rfl, ← choose_fr]; exact this
      · rename_i h0
        rw [if_neg h0]; exact this)
  | s, s1, .go .top pl nt, .mk h => .mk (many_f h)
  | s, s1, .go (.row l K) pl nt, .mk h => by
      have := manyF_one (many_f h)
      rw [frT_rowT] at this
      exact this
  | s, s1, .go (.grp i K) pl nt, .mk h => manyF_one (many_f h)
  | s, s1, .go (.dec n K) pl nt, .mk h => manyF_one (many_f h)
theorem many_f : ∀ {s s1 : St} {l : List Task}, Many t at_ s l s1 → ManyF t at_ s (l.map frT) s1
  | _, _, [], .nil => .nil
  | _, _, _ :: _, .cons h1 h2 => .cons (one_f h1) (many_f h2)
end
mutual
theorem oneF_fun : ∀ {s a b : St} {k : FTask}, OneF t at_ s k a → OneF t at_ s k b → a = b
  | _, _, _, _, .mk h, .mk g => manyF_fun h g
theorem manyF_fun : ∀ {s a b : St} {l : List FTask}, ManyF t at_ s l a → ManyF t at_ s l b → a = b
  | _, _, _, [], .nil, .nil => rfl
  | _, _, _, _ :: _, .cons h1 h2, .cons g1 g2 => by
    cases oneF_fun h1 g1
    exact manyF_fun h2 g2
end
/-- It was done ahead, or is under way. -/
def StartedT (s : St) : FTask → Prop
  | .beg n pl _ _ => s.met (n.ad, pl, false) ≠ 0
  | .dcd n pl _ _ => s.met (n.ad, pl, true) ≠ 0
  | .top pl _ => (s.out.any fun p => p.1 == pl) = true
theorem started_nt {s : St} {pl : Nat} : ∀ (F : List Pc) (nt nt' : List Int), StartedT s (goF F pl nt) → StartedT s (goF F pl nt') := by
  intro F
  induction F with
  | nil => exact fun _ _ h => h
  | cons x F ih =>
    cases x with
    | b n => exact fun _ _ h => h
    | g i => exact fun _ _ h => ih _ _ h
    | d n => exact fun _ _ h => h
theorem ended_met (s : St) (pl : Nat) (nt : List Int) (m : Mark) : (ended at_ s pl nt).met m = s.met m := by unfold ended; split <;> rfl
theorem started_work (s : St) (k : FTask) : StartedT (workF t at_ s k).1 k := by
  cases k with
  | beg n pl nt F => exact met_self _ _
  | dcd n pl nt F => exact met_self _ _
  | top pl nt =>
    show ((ended at_ s pl nt).out.any fun p => p.1 == pl) = true
    unfold ended
    split
    · assumption
    · rw [List.any_append]; simp
theorem started_grows {s : St} {k : FTask} (x : FTask) (h : StartedT s k) : StartedT (workF t at_ s x).1 k := by
  have hm : ∀ m, s.met m ≠ 0 → (workF t at_ s x).1.met m ≠ 0 := fun m h => by
    cases x with
    | beg n pl nt F => exact met_mark h
    | dcd n pl nt F => exact met_mark h
    | top pl nt => rw [show (workF t at_ s (.top pl nt)).1 = ended at_ s pl nt from rfl, ended_met]; exact h
  have ho : ∀ pl, (s.out.any fun p => p.1 == pl) = true → ((workF t at_ s x).1.out.any fun p => p.1 == pl) = true := fun q h => by
    cases x with
    | beg n pl nt F => exact h
    | dcd n pl nt F => exact h
    | top pl nt =>
      show ((ended at_ s pl nt).out.any fun p => p.1 == q) = true
      unfold ended
      split
      · exact h
      · rw [List.any_append, h]; rfl
  cases k with
  | beg n pl nt F => exact hm _ h
  | dcd n pl nt F => exact hm _ h
  | top pl nt => exact ho _ h
/-- What was begun is left. -/
theorem skipF {s : St} {k : FTask} (h : StartedT s k) : ∃ s1, OneF t at_ s k s1 ∧ (∀ m, s.met m = 0 ↔ s1.met m = 0) ∧ s.out = s1.out ∧ ∀ x, StartedT s x → StartedT s1 x := by
  have hk : (workF t at_ s k).2 = [] := by
    cases k with
    | beg n pl nt F => exact if_neg h
    | dcd n pl nt F => exact if_neg h
    | top pl nt => rfl
  have hmk : ∀ m, s.met m ≠ 0 → ∀ x, s.met x = 0 ↔ (s.mark m).met x = 0 := fun m hm x => by
    by_cases e : x = m
    · rw [e]; exact ⟨fun g => absurd g hm, fun g => absurd g (met_self s m)⟩
    · rw [met_other e]
  refine ⟨(workF t at_ s k).1, .mk (by rw [hk]; exact .nil), ?_, ?_, fun x hx => started_grows k hx⟩
  · cases k with
    | beg n pl nt F => exact hmk _ h
    | dcd n pl nt F => exact hmk _ h
    | top pl nt => intro m; rw [show (workF t at_ s (.top pl nt)).1 = ended at_ s pl nt from rfl, ended_met]
  · cases k with
    | beg n pl nt F => rfl
    | dcd n pl nt F => rfl
    | top pl nt =>
      show s.out = (ended at_ s pl nt).out
      unfold ended
      rw [if_pos (show (s.out.any fun p => p.1 == pl) = true from h)]
end
end Mean
end Go.Proofs.Yteimpcjafgllpaa
namespace Go.Proofs.Yteimpcjafgllpaa
open Go.RowKit Go.Proofs.Yteimpcjafgllpaa.Tr
/-- What the walk leaves in the box of what came out. -/
def Came (t : List Int) (at_ g0 o : Nat) (u : Mean.Un) (w' : World) : Prop :=
  ∃ (A : Option Addr) (oc : Nat) (ps : List (Nat × Option Addr × Nat × List Int)) (s' : Mean.St), Mean.One t at_ st0 (.beg u at_ (List.replicate (2 + 2 * g0) (-1)) .top) s' ∧ s'.out = ps.map (fun p => (p.1, p.2.2.2)) ∧
    w'.cell? ⟨o, 0, none⟩ = some (.slice A ps.length oc) ∧ Reads w' w'.heap.size 2 A ps.length oc (outW ps) ∧ (∀ p ∈ ps, Reads w' w'.heap.size 1 p.2.1 p.2.2.2.length p.2.2.1 (p.2.2.2.map (Value.int .i64)) ∧ p.2.2.2.length = 2 + 2 * g0) ∧ (s'.out.map (·.1)).Nodup ∧ ∀ p ∈ s'.out, p.1 ≤ t.length
theorem parses_walk {B n c g0 at_ o nb : Nat} {At : Option Addr} {t : List Int} {tr : Tr.Tr} {u : Mean.Un} {S T : Nat → Prop} {w : World}
    (hso : soundB tr = true) (hz : uz tr ≤ 2000) (hg : greatest tr = (g0 : Int)) (hg5 : g0 ≤ 500) (hsh : shU u = unfS tr) (hat : at_ ≤ n) (hn : n ≤ 64) (htl : t.length = n)
    (hB : B + 1 < o) (hm : w.heap[o + 1]? = some (.map #[] 0)) (hob : Blk w o 33 [.slice none 0 0]) (hwb : Blk w (o + 1 + 1) 50 [.slice At n c, .map (some (o + 1))])
    (hab : w.cell? ⟨B + 1, 0, none⟩ = some (.int .i64 (at_ : Int))) (htx : RdA w S 1 At n c (t.map (Value.int .i64))) (hS : ∀ b, S b → b < B) (hut : UT w S T u) (hT : ∀ b, T b → b < w.heap.size ∧ o + 1 + 1 < b)
    (hnb : Blk w nb 3 (List.replicate (2 + 2 * g0) (.int .i64 (-1)))) (hno : o + 1 + 1 < nb) :
    Calls Try.prog 25 #[.pointer (some ⟨o + 1 + 1, 0, none⟩), .pointer (some ⟨u.ad, 0, none⟩), .int .i64 (at_ : Int), .slice (some ⟨nb, 0, none⟩) (2 + 2 * g0) (2 + 2 * g0), .func (Fn.func 27) #[] #[.pointer (some ⟨o, 0, none⟩), .pointer (some ⟨B + 1, 0, none⟩)]] w fun e w' =>
      e = .returned (.tuple #[]) ∧ Below o w w' ∧ Came t at_ g0 o u w' := by
  obtain ⟨hall, hdp, -⟩ := sound_all hso
  let G : Wk := ⟨o, o + 1 + 1, o + 1, o, B + 1, At, n, c, t, at_, 2 + 2 * g0, u.all⟩
  have hgt : (greatest tr).toNat = g0 := by rw [hg]; rfl
  have hwf : G.wf := wf_start (G := G) rfl hsh hall (by omega) hz (by show 2 + 2 * g0 = _; rw [hgt]) (by omega) htl (by show n ≤ _; omega)
  have holt := hob.lt
  have hmlt : o + 1 < w.heap.size := (Array.getElem?_eq_some_iff.1 hm).1
  obtain ⟨hc, hs⟩ := start_ok (G := G) (w := w) (u := u) (S := S) (T := T) rfl hm hob hwb hab (by show o + 1 + 1 ≠ o ∧ B + 1 ≠ o + 1 ∧ B + 1 ≠ o; omega) htx hut
    (fun b hb => by have := hS b hb; show b < w.heap.size ∧ b ≠ o + 1 ∧ b ≠ o; omega) (fun b hb => by have := hT b hb; show b < w.heap.size ∧ b ≠ o + 1 ∧ b ≠ o; omega)
  have hout : outB o w = none := by unfold outB; rw [hob.cell 0]; rfl
  have hst : G.still w nb := ⟨hnb.lt, fun hx => by
    rcases mem_mut.1 hx with e | e | e
    · have e' : nb = o + 1 := e; omega
    · have e' : nb = o := e; omega
    · have e' : outB o w = some nb := e; rw [hout] at e'; cases e'⟩
  have hsz : u.all.length ≤ 40004000 := by
    rw [all_len, hsh]
    have h1 := sz_le tr 10001 hall (by omega)
    have h2 : 2 * 10001 * uz tr ≤ 2 * 10001 * 2000 := Nat.mul_le_mul_left _ hz
    omega
  have hr : RdA w (G.still w) 1 (some ⟨nb, 0, none⟩) G.NL (2 + 2 * g0) ((List.replicate (2 + 2 * g0) (-1 : Int)).map (Value.int .i64)) := by
    refine ⟨Nat.le_refl _, by omega, by rw [List.length_map, List.length_replicate]; show _ = (2 + 2 * g0) * 1; omega, fun h => (by cases h), fun _ => ⟨nb, 0, rfl, hst, fun j v hv => ?_⟩⟩
    rw [Nat.zero_add, hnb.cell j, ← hv, List.map_replicate]
  refine (walk_any (G := G) (u := u) rfl hwf (fun w hw => Nat.le_of_lt hw.ob) hsz hn at_ hat (List.replicate (2 + 2 * g0) (-1)) (by rw [List.length_replicate]) w (some ⟨nb, 0, none⟩) (2 + 2 * g0) hc hs hr).mono ?_
  rintro e w' ⟨rfl, hf, s', h1, hs'⟩
  refine ⟨rfl, hf.kept.below (fun k hk => ?_) (Nat.le_of_lt holt), ?_⟩
  · rcases mem_mut.1 hk with e | e | e
    · have e' : k = o + 1 := e; omega
    · have e' : k = o := e; omega
    · have e' : outB o w = some k := e; rw [hout] at e'; cases e'
  · obtain ⟨-, ⟨v, ps, hb, hown, hps, hrd⟩, -, hnd, hle⟩ := hs'
    obtain ⟨A, oc, rfl⟩ := own_shape hown
    have hlen : s'.out.length = ps.length := by rw [hps, List.length_map]
    rw [hlen] at hown hb
    refine ⟨A, oc, ps, s', h1, hps, hb.cell 0, Reads.of_own hown, fun p hp => ?_, hnd, fun p hp => by rw [htl]; exact hle p hp⟩
    have := hrd p hp
    exact ⟨this.1.reads fun b hb => hb.1, this.2⟩
end Go.Proofs.Yteimpcjafgllpaa
