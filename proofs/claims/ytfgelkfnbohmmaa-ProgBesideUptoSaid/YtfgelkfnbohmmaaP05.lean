/- The machine as a search that remembers: big steps. No program here. -/
import Derived.Test.YtfgelkfnbohmmaaP04
namespace Go.Proofs.Ytfgelkfnbohmmaa.Mach
def setM (M : Nat → Nat → Bool) (i k : Nat) : Nat → Nat → Bool := fun a b => if a = i ∧ b = k then true else M a b
theorem setM_self (M : Nat → Nat → Bool) (i k : Nat) : setM M i k i k = true := by simp [setM]
theorem setM_old {M : Nat → Nat → Bool} {a b : Nat} (i k : Nat) (h : M a b = true) : setM M i k a b = true := by unfold setM; split <;> simp [h]
theorem setM_iff {M : Nat → Nat → Bool} {i k a b : Nat} : setM M i k a b = true ↔ M a b = true ∨ (a = i ∧ b = k) := by
  unfold setM
  split
  · rename_i h; simp [h]
  · rename_i h; simp [h]
section
variable (p : Prg) (t : List Int)
mutual
/-- From a pair on: what is met behind it; what is found. -/
inductive DOne : (Nat → Nat → Bool) → List Int → Nat × Nat → (Nat → Nat → Bool) → Option (List Int × Int) → Prop
  | met {M : Nat → Nat → Bool} {c : List Int} {q : Nat × Nat} : M q.1 q.2 = true → DOne M c q M none
  | fin {M : Nat → Nat → Bool} {c : List Int} {q : Nat × Nat} {x : Ins} : M q.1 q.2 = false → p.insts[q.1]? = some x → x.op = 5 → DOne M c q (setM M q.1 q.2) (some (c, x.arg))
  | step {M M' : Nat → Nat → Bool} {c : List Int} {q : Nat × Nat} {x : Ins} {r : Option (List Int × Int)} : M q.1 q.2 = false → p.insts[q.1]? = some x → x.op ≠ 5 → DMany (setM M q.1 q.2) (capsAt x q.2 c) (nexts t x q.2) M' r → DOne M c q M' r
inductive DMany : (Nat → Nat → Bool) → List Int → List (Nat × Nat) → (Nat → Nat → Bool) → Option (List Int × Int) → Prop
  | nil {M : Nat → Nat → Bool} {c : List Int} : DMany M c [] M none
  | cons {M M1 M2 : Nat → Nat → Bool} {c : List Int} {q : Nat × Nat} {l : List (Nat × Nat)} {r : Option (List Int × Int)} : DOne M c q M1 none → DMany M1 c l M2 r → DMany M c (q :: l) M2 r
  | stop {M M1 : Nat → Nat → Bool} {c : List Int} {q : Nat × Nat} {l : List (Nat × Nat)} {w : List Int × Int} : DOne M c q M1 (some w) → DMany M c (q :: l) M1 (some w)
end
theorem DMany.one {M M' : Nat → Nat → Bool} {c : List Int} {q : Nat × Nat} {r : Option (List Int × Int)} (h : DOne p t M c q M' r) : DMany p t M c [q] M' r := by
  cases r with
  | none => exact .cons h .nil
  | some w => exact .stop h
variable (at_ : Nat)
def Agree (s : MS) (M : Nat → Nat → Bool) : Prop := ∀ i k, JobOk p t at_ (.pair i k) → (mP t at_ s i k ↔ M i k = true)
/-- Where the machine comes to. -/
def Came1 (s' : MS) (rest : List Job) (c : List Int) (M' : Nat → Nat → Bool) : Option (List Int × Int) → Prop
  | none => s'.todo = rest ∧ s'.fin = none ∧ s'.caps = c ∧ Agree p t at_ s' M'
  | some w => s'.fin = some w.2 ∧ s'.caps = w.1
variable {p t at_}
mutual
theorem d_one (hc : checkB p = true) : ∀ {M M' : Nat → Nat → Bool} {c : List Int} {q : Nat × Nat} {r : Option (List Int × Int)}, DOne p t M c q M' r → ∀ {s : MS} {rest : List Job}, Ok p t at_ s → s.fin = none → s.todo = .pair q.1 q.2 :: rest → s.caps = c → Agree p t at_ s M → ∃ n, Came1 p t at_ (iter p t at_ n s) rest c M' r
  | M, _, c, q, _, .met hm, s, rest, ho, hf, ht, hcs, ha => by
    have hj := ho.jobs (.pair q.1 q.2) (by rw [ht]; exact List.mem_cons_self)
    refine ⟨1, ?_⟩
    show Came1 p t at_ (mstep p t at_ s) rest c M none
    rw [mstep_met hf ht ((ha _ _ hj).2 hm)]
    exact ⟨rfl, hf, hcs, ha⟩
  | M, _, c, q, _, .fin (x := x) hm hx h5, s, rest, ho, hf, ht, hcs, ha => by
    have hj := ho.jobs (.pair q.1 q.2) (by rw [ht]; exact List.mem_cons_self)
    have hmm : s.met.getD (bitOf t at_ q.1 q.2) true = false := by
      have := (not_congr (ha _ _ hj)).2 (by rw [hm]; simp)
      unfold mP at this
      simpa using this
    refine ⟨1, ?_⟩
    show Came1 p t at_ (mstep p t at_ s) rest c _ _
    rw [mstep_pair hf ht hmm hx, eff_eq]
    refine ⟨by simp [h5], ?_⟩
    show capsAt x q.2 s.caps = c
    unfold capsAt
    rw [if_neg (by omega), hcs]
  | M, M', c, q, r, .step (x := x) hm hx h5 h, s, rest, ho, hf, ht, hcs, ha => by
    have hj := ho.jobs (.pair q.1 q.2) (by rw [ht]; exact List.mem_cons_self)
    have hmm : s.met.getD (bitOf t at_ q.1 q.2) true = false := by
      have := (not_congr (ha _ _ hj)).2 (by rw [hm]; simp)
      unfold mP at this
      simpa using this
    have e := mstep_pair (p := p) (t := t) (at_ := at_) hf ht hmm hx
    rw [eff_eq, if_neg h5] at e
    simp only [] at e
    have ho1 := ho.step hc
    have ha1 : Agree p t at_ (mstep p t at_ s) (setM M q.1 q.2) := fun i k hik => by
      rw [e, mP_set (s := s) rfl ho.met hj hik, setM_iff, ha i k hik]
    obtain ⟨n, hn⟩ := d_many hc h (s := mstep p t at_ s) (rest := under x s.caps ++ rest) ho1 (by rw [e]; exact hf) (by rw [e]) (by rw [e]; simp only []; rw [hcs]) ha1
    cases r with
    | some w =>
      refine ⟨1 + n, ?_⟩
      rw [iter_add]
      exact hn
    | none =>
      obtain ⟨g1, g2, g3, g4⟩ := hn
      by_cases h3 : x.op = 3
      · refine ⟨1 + n + 1, ?_⟩
        rw [iter_add, iter_add]
        have hu : under x s.caps = [.back x.arg.toNat (s.caps.getD x.arg.toNat 0)] := by unfold under; rw [if_pos h3]
        rw [hu] at g1
        show Came1 p t at_ (mstep p t at_ (iter p t at_ n (mstep p t at_ s))) rest c M' none
        rw [mstep_back g2 g1]
        refine ⟨rfl, g2, ?_, g4⟩
        show (iter p t at_ n (mstep p t at_ s)).caps.set _ _ = c
        rw [g3]
        unfold capsAt
        rw [if_pos h3, hcs, set_back]
      · refine ⟨1 + n, ?_⟩
        rw [iter_add]
        have hu : under x s.caps = [] := by unfold under; rw [if_neg h3]
        rw [hu] at g1
        refine ⟨g1, g2, ?_, g4⟩
        show (iter p t at_ n (mstep p t at_ s)).caps = c
        rw [g3]
        unfold capsAt
        rw [if_neg h3]
theorem d_many (hc : checkB p = true) : ∀ {M M' : Nat → Nat → Bool} {c : List Int} {l : List (Nat × Nat)} {r : Option (List Int × Int)}, DMany p t M c l M' r → ∀ {s : MS} {rest : List Job}, Ok p t at_ s → s.fin = none → s.todo = jobs l ++ rest → s.caps = c → Agree p t at_ s M → ∃ n, Came1 p t at_ (iter p t at_ n s) rest c M' r
  | _, _, _, _, _, .nil, s, rest, ho, hf, ht, hcs, ha => ⟨0, ht, hf, hcs, ha⟩
  | _, _, _, _, _, .cons (q := q) (l := l) h1 h2, s, rest, ho, hf, ht, hcs, ha => by
    obtain ⟨n, g1, g2, g3, g4⟩ := d_one hc h1 (s := s) (rest := jobs l ++ rest) ho hf ht hcs ha
    obtain ⟨m, hm⟩ := d_many hc h2 (s := iter p t at_ n s) (rest := rest) (ho.iter_ hc n) g2 g1 g3 g4
    exact ⟨n + m, by rw [iter_add]; exact hm⟩
  | _, _, _, _, _, .stop (q := q) (l := l) h1, s, rest, ho, hf, ht, hcs, ha => by
    obtain ⟨n, hn⟩ := d_one hc h1 (s := s) (rest := jobs l ++ rest) ho hf ht hcs ha
    exact ⟨n, hn⟩
end
/-- The run from a place on, the map's places from another one on. -/
theorem walk_is (hc : checkB p = true) {a b : Nat} (hb : a ≤ b ∧ b ≤ t.length) {M' : Nat → Nat → Bool} {r : Option (List Int × Int)}
    (h : DOne p t (fun _ _ => false) (List.replicate p.caps.toNat (-1)) (p.start.toNat, b) M' r) :
    (final p t a (begin_ p b (List.replicate (p.insts.length * places t a) false) 0)).fin.map (fun w => ((final p t a (begin_ p b (List.replicate (p.insts.length * places t a) false) 0)).caps, w)) = r := by
  have ho : Ok p t a (begin_ p b (List.replicate (p.insts.length * places t a) false) 0) := Ok.start hc (Nat.le_trans hb.1 hb.2) hb (by rw [List.length_replicate]) (by rw [List.length_replicate, List.count_replicate]; simp)
  obtain ⟨n, hn⟩ := d_one hc h (s := begin_ p b (List.replicate (p.insts.length * places t a) false) 0) (rest := []) ho rfl rfl rfl fun i k hj => by
    refine ⟨fun hx => absurd hx (fresh_met hj), fun hx => by cases hx⟩
  generalize begin_ p b (List.replicate (p.insts.length * places t a) false) 0 = X at hn ⊢
  have hfi : ∀ _ : halted (iter p t a n X), final p t a X = iter p t a n X := fun hh => by rw [← final_iter n X]; exact final_halted hh
  cases r with
  | none =>
    obtain ⟨g1, g2, -, -⟩ := hn
    rw [hfi (.inr g1), g2]; rfl
  | some w =>
    obtain ⟨g1, g2⟩ := hn
    rw [hfi (.inl (by rw [g1]; simp)), g1, g2]; rfl
end
end Go.Proofs.Ytfgelkfnbohmmaa.Mach
namespace Go.Proofs.Ytfgelkfnbohmmaa.Mach
/-- What the walk from a place alone comes to. -/
def walkAt (p : Prg) (t : List Int) (b : Nat) : MS := final p t 0 (begin_ p b (List.replicate (p.insts.length * places t 0) false) 0)
/-- What it finds: captures and which. -/
def resAt (p : Prg) (t : List Int) (b : Nat) : Option (List Int × Int) := (walkAt p t b).fin.map fun w => ((walkAt p t b).caps, w)
section
variable {p : Prg} {t : List Int}
def unm (n T : Nat) (M : Nat → Nat → Bool) : Nat := ((List.range n).flatMap fun i => (List.range (T + 1)).map fun k => (i, k)).countP fun q => !M q.1 q.2
theorem countP_lt {α : Type} {l : List α} {f g : α → Bool} (h : ∀ x ∈ l, f x = true → g x = true) {m : α} (hm : m ∈ l) (hf : f m = false) (hg : g m = true) : l.countP f < l.countP g := by
  induction l with
  | nil => cases hm
  | cons a l ih =>
    rw [List.countP_cons, List.countP_cons]
    have hle : l.countP f ≤ l.countP g := List.countP_mono_left fun x hx => h x (List.mem_cons_of_mem _ hx)
    rcases List.mem_cons.1 hm with rfl | hm
    · rw [hf, hg]; simp; omega
    · have h1 := ih (fun x hx => h x (List.mem_cons_of_mem _ hx)) hm
      have h2 := h a List.mem_cons_self
      cases hfa : f a with
      | false => simp; omega
      | true => rw [h2 hfa]; simp; omega
theorem unm_less {n T i k : Nat} {M : Nat → Nat → Bool} (hi : i < n) (hk : k ≤ T) (h : M i k = false) : unm n T (setM M i k) < unm n T M := by
  refine countP_lt (m := (i, k)) (fun q _ hq => ?_) (List.mem_flatMap.2 ⟨i, List.mem_range.2 hi, List.mem_map.2 ⟨k, List.mem_range.2 (by omega), rfl⟩⟩) (by simp [setM_self]) (by simp [h])
  cases hm : M q.1 q.2 with
  | false => rfl
  | true => rw [setM_old _ _ hm] at hq; cases hq
theorem unm_le {n T : Nat} {M M' : Nat → Nat → Bool} (h : ∀ i k, M i k = true → M' i k = true) : unm n T M' ≤ unm n T M := by
  refine List.countP_mono_left fun q _ hq => ?_
  cases hm : M q.1 q.2 with
  | false => rfl
  | true => rw [h _ _ hm] at hq; cases hq
theorem done_ex (hc : checkB p = true) : ∀ (m : Nat) (M : Nat → Nat → Bool) (c : List Int) (q : Nat × Nat), unm p.insts.length t.length M ≤ m → q.1 < p.insts.length → q.2 ≤ t.length → ∃ M' r, DOne p t M c q M' r ∧ ∀ i k, M i k = true → M' i k = true := by
  intro m
  induction m with
  | zero =>
    intro M c q hm h1 h2
    cases hq : M q.1 q.2 with
    | true => exact ⟨M, none, .met hq, fun _ _ h => h⟩
    | false => have := unm_less h1 h2 hq; omega
  | succ m ih =>
    intro M c q hm h1 h2
    cases hq : M q.1 q.2 with
    | true => exact ⟨M, none, .met hq, fun _ _ h => h⟩
    | false =>
      have hless := unm_less h1 h2 hq
      obtain ⟨x, hx⟩ : ∃ x, p.insts[q.1]? = some x := ⟨_, List.getElem?_eq_getElem h1⟩
      by_cases h5 : x.op = 5
      · exact ⟨_, _, .fin hq hx h5, fun _ _ h => setM_old _ _ h⟩
      have many : ∀ (l : List (Nat × Nat)) (M1 : Nat → Nat → Bool), (∀ r ∈ l, r.1 < p.insts.length ∧ r.2 ≤ t.length) → unm p.insts.length t.length M1 ≤ m → ∃ M' r, DMany p t M1 (capsAt x q.2 c) l M' r ∧ ∀ i k, M1 i k = true → M' i k = true := by
        intro l
        induction l with
        | nil => intro M1 _ _; exact ⟨M1, none, .nil, fun _ _ h => h⟩
        | cons r l ihl =>
          intro M1 hl hM1
          obtain ⟨M2, r2, d2, g2⟩ := ih M1 (capsAt x q.2 c) r hM1 (hl r List.mem_cons_self).1 (hl r List.mem_cons_self).2
          cases r2 with
          | some w => exact ⟨M2, some w, .stop d2, g2⟩
          | none =>
            obtain ⟨M3, r3, d3, g3⟩ := ihl M2 (fun y hy => hl y (List.mem_cons_of_mem _ hy)) (Nat.le_trans (unm_le g2) hM1)
            exact ⟨M3, r3, .cons d2 d3, fun i k h => g3 i k (g2 i k h)⟩
      obtain ⟨M', r, d, g⟩ := many (nexts t x q.2) (setM M q.1 q.2) (fun r hr => nexts_ok (may_of hc hx) h2 hr) (by omega)
      exact ⟨M', r, .step hq hx h5 d, fun i k h => g i k (setM_old _ _ h)⟩
/-- The walk from a place alone, in big steps. -/
theorem res_done (hc : checkB p = true) {b : Nat} (hb : b ≤ t.length) : ∃ M', DOne p t (fun _ _ => false) (List.replicate p.caps.toNat (-1)) (p.start.toNat, b) M' (resAt p t b) := by
  have hj := start_job (t := t) hc (a := 0) ⟨Nat.zero_le b, hb⟩
  obtain ⟨M', r, d, -⟩ := done_ex hc _ (fun _ _ => false) (List.replicate p.caps.toNat (-1)) (p.start.toNat, b) (Nat.le_refl _) hj.1 hb
  have e := walk_is hc (a := 0) ⟨Nat.zero_le b, hb⟩ d
  refine ⟨M', ?_⟩
  have e2 : resAt p t b = r := e
  rw [e2]
  exact d
theorem res_of (hc : checkB p = true) {b : Nat} (hb : b ≤ t.length) {M' : Nat → Nat → Bool} {r : Option (List Int × Int)} (d : DOne p t (fun _ _ => false) (List.replicate p.caps.toNat (-1)) (p.start.toNat, b) M' r) : resAt p t b = r :=
  walk_is hc (a := 0) ⟨Nat.zero_le b, hb⟩ d
end
/-- An instruction moved; a match tells which. -/
def mvI (o : Nat) (wh : Int) (x : Ins) : Ins :=
  ⟨x.op, if x.op = 5 ∨ x.op = 6 then x.x else x.x + o, if x.op = 2 then x.y + o else x.y, if x.op = 5 then wh else x.arg, x.rng⟩
/-- A copy of p stands at o. -/
def CopyAt (P p : Prg) (o : Nat) (wh : Int) : Prop := ∀ j x, p.insts[j]? = some x → P.insts[o + j]? = some (mvI o wh x)
section
variable {P p : Prg} {t : List Int} {o : Nat} {wh : Int} {ext : List Int}
theorem nexts_mv {x : Ins} {n : Nat} {caps : Int} (h : mayB x n caps = true) (k : Nat) : nexts t (mvI o wh x) k = (nexts t x k).map fun q => (o + q.1, q.2) := by
  have tn : ∀ z : Int, 0 ≤ z → (z + (o : Int)).toNat = o + z.toNat := fun z hz => by omega
  unfold nexts
  show (if x.op = 1 then _ else if x.op = 2 then _ else if x.op = 3 then _ else if x.op = 4 then _ else if x.op = 7 then _ else _) = _
  by_cases h1 : x.op = 1
  · have hx := (may_x h (.inl h1)).1
    rw [if_pos h1, if_pos h1]
    show (if k < t.length ∧ memB x.rng (t.getD k 0) = true then [((mvI o wh x).x.toNat, k + 1)] else []) = _
    have : (mvI o wh x).x = x.x + o := by unfold mvI; simp [h1]
    rw [this, tn _ hx]
    split <;> rfl
  rw [if_neg h1, if_neg h1]
  by_cases h2 : x.op = 2
  · have hx := (may_x h (.inr (.inl h2))).1
    have hy := (may_y h h2).1
    rw [if_pos h2, if_pos h2]
    have e1 : (mvI o wh x).x = x.x + o := by unfold mvI; simp [h2]
    have e2 : (mvI o wh x).y = x.y + o := by unfold mvI; simp [h2]
    rw [e1, e2, tn _ hx, tn _ hy]; rfl
  rw [if_neg h2, if_neg h2]
  by_cases h3 : x.op = 3
  · have hx := (may_x h (.inr (.inr (.inl h3)))).1
    rw [if_pos h3, if_pos h3]
    have e1 : (mvI o wh x).x = x.x + o := by unfold mvI; simp [h3]
    rw [e1, tn _ hx]; rfl
  rw [if_neg h3, if_neg h3]
  by_cases h4 : x.op = 4
  · have hx := (may_x h (.inr (.inr (.inr (.inl h4))))).1
    rw [if_pos h4, if_pos h4]
    have e1 : (mvI o wh x).x = x.x + o := by unfold mvI; simp [h4]
    have e2 : (mvI o wh x).arg = x.arg := by unfold mvI; simp [h4]
    rw [e1, e2, tn _ hx]
    split <;> rfl
  rw [if_neg h4, if_neg h4]
  by_cases h7 : x.op = 7
  · have hx := (may_x h (.inr (.inr (.inr (.inr h7))))).1
    rw [if_pos h7, if_pos h7]
    have e1 : (mvI o wh x).x = x.x + o := by unfold mvI; simp [h7]
    rw [e1, tn _ hx]; rfl
  rw [if_neg h7, if_neg h7]; rfl
/-- The map of the whole, as far as the copy goes. -/
def Agr (p : Prg) (o : Nat) (M N : Nat → Nat → Bool) : Prop := ∀ i k, i < p.insts.length → N (o + i) k = M i k
/-- What is outside stays. -/
def Out (p : Prg) (o : Nat) (N N' : Nat → Nat → Bool) : Prop := ∀ a k, (a < o ∨ o + p.insts.length ≤ a) → N' a k = N a k
theorem Agr.set_ {M N : Nat → Nat → Bool} (h : Agr p o M N) (i k : Nat) : Agr p o (setM M i k) (setM N (o + i) k) := fun a b ha => by
  unfold setM
  rw [h a b ha]
  by_cases e : a = i ∧ b = k
  · rw [if_pos e, if_pos ⟨by omega, e.2⟩]
  · rw [if_neg e, if_neg fun e' => e ⟨by omega, e'.2⟩]
theorem Out.set_ {N : Nat → Nat → Bool} {i : Nat} (hi : i < p.insts.length) (k : Nat) : Out p o N (setM N (o + i) k) := fun a b ha => by
  unfold setM
  rw [if_neg fun e => by omega]
theorem Out.trans {N N1 N2 : Nat → Nat → Bool} (h : Out p o N N1) (g : Out p o N1 N2) : Out p o N N2 := fun a k ha => (g a k ha).trans (h a k ha)
def rMap (wh : Int) (ext : List Int) (r : Option (List Int × Int)) : Option (List Int × Int) := r.map fun w => (w.1 ++ ext, wh)
mutual
theorem copy_one (hc : checkB p = true) (hcp : CopyAt P p o wh) : ∀ {M M' : Nat → Nat → Bool} {c : List Int} {q : Nat × Nat} {r : Option (List Int × Int)}, DOne p t M c q M' r → ∀ {N : Nat → Nat → Bool}, c.length = p.caps.toNat → q.1 < p.insts.length → q.2 ≤ t.length → Agr p o M N → ∃ N', DOne P t N (c ++ ext) (o + q.1, q.2) N' (rMap wh ext r) ∧ Agr p o M' N' ∧ Out p o N N'
  | M, _, c, q, _, .met hm, N, hcl, h1, h2, ha => ⟨N, .met (by rw [ha _ _ h1]; exact hm), ha, fun _ _ _ => rfl⟩
  | M, _, c, q, _, .fin (x := x) hm hx h5, N, hcl, h1, h2, ha => by
    refine ⟨setM N (o + q.1) q.2, ?_, ha.set_ _ _, Out.set_ h1 _⟩
    have := DOne.fin (p := P) (t := t) (M := N) (c := c ++ ext) (q := (o + q.1, q.2)) (by rw [ha _ _ h1]; exact hm) (hcp _ _ hx) h5
    rw [show (mvI o wh x).arg = wh from by unfold mvI; simp [h5]] at this
    exact this
  | M, M', c, q, r, .step (x := x) hm hx h5 h, N, hcl, h1, h2, ha => by
    have hmay := may_of hc hx
    obtain ⟨N', d, ha', ho'⟩ := copy_many hc hcp h (N := setM N (o + q.1) q.2) (by unfold capsAt; split <;> simp [hcl]) (fun r hr => nexts_ok hmay h2 hr) (ha.set_ _ _)
    refine ⟨N', .step (q := (o + q.1, q.2)) (by rw [ha _ _ h1]; exact hm) (hcp _ _ hx) h5 ?_, ha', (Out.set_ h1 _).trans ho'⟩
    rw [nexts_mv hmay]
    have : capsAt (mvI o wh x) q.2 (c ++ ext) = capsAt x q.2 c ++ ext := by
      unfold capsAt
      show (if x.op = 3 then _ else _) = _
      by_cases h3 : x.op = 3
      · rw [if_pos h3, if_pos h3]
        have e2 : (mvI o wh x).arg = x.arg := by unfold mvI; simp [h3]
        have := may_arg hmay h3
        rw [e2, List.set_append_left _ _ (by omega)]
      · rw [if_neg h3, if_neg h3]
    rw [this]
    exact d
theorem copy_many (hc : checkB p = true) (hcp : CopyAt P p o wh) : ∀ {M M' : Nat → Nat → Bool} {c : List Int} {l : List (Nat × Nat)} {r : Option (List Int × Int)}, DMany p t M c l M' r → ∀ {N : Nat → Nat → Bool}, c.length = p.caps.toNat → (∀ q ∈ l, q.1 < p.insts.length ∧ q.2 ≤ t.length) → Agr p o M N → ∃ N', DMany P t N (c ++ ext) (l.map fun q => (o + q.1, q.2)) N' (rMap wh ext r) ∧ Agr p o M' N' ∧ Out p o N N'
  | M, _, c, _, _, .nil, N, hcl, hl, ha => ⟨N, .nil, ha, fun _ _ _ => rfl⟩
  | M, _, c, _, r, .cons (q := q) (l := l) g1 g2, N, hcl, hl, ha => by
    obtain ⟨N1, d1, a1, o1⟩ := copy_one hc hcp g1 hcl (hl q List.mem_cons_self).1 (hl q List.mem_cons_self).2 ha
    obtain ⟨N2, d2, a2, o2⟩ := copy_many hc hcp g2 (N := N1) hcl (fun y hy => hl y (List.mem_cons_of_mem _ hy)) a1
    exact ⟨N2, .cons d1 d2, a2, o1.trans o2⟩
  | M, _, c, _, _, .stop (q := q) (l := l) g1, N, hcl, hl, ha => by
    obtain ⟨N1, d1, a1, o1⟩ := copy_one hc hcp g1 hcl (hl q List.mem_cons_self).1 (hl q List.mem_cons_self).2 ha
    exact ⟨N1, .stop d1, a1, o1⟩
end
end
end Go.Proofs.Ytfgelkfnbohmmaa.Mach
