/- What the document's answer 7 reckons of a tree's simple form. No program here. -/
import Derived.Test.YtfgelkfnbohmmaaQSimp
namespace Go.Proofs.Ytfgelkfnbohmmaa.Tr

def lidN : Int := 1099511627776
theorem lidN_ge : 1000 ≤ lidN := by decide
/-- kind, nodes, Subs, depth. -/
structure Sm where
  kd : Int
  nd : Int
  sb : Int
  dp : Int
structure Rw where
  sb : Int
  nd : Int
  dp : Int
  last : Sm
def emptyS : Sm := ⟨1, 1, 0, 1⟩
def rw0 : Rw := ⟨0, 0, 0, ⟨0, 0, 0, 0⟩⟩
def addR (r : Rw) (x : Sm) (n flat : Int) : Rw :=
  if n = 0 then r else if x.kd = flat then ⟨min (r.sb + n * x.sb) lidN, min (r.nd + n * (x.nd - 1)) lidN, max r.dp (x.dp - 1), r.last⟩
  else ⟨min (r.sb + n) lidN, min (r.nd + n * x.nd) lidN, max r.dp x.dp, x⟩
def joinR (r : Rw) (x : Sm) (n : Int) : Rw := if x.kd ≠ 1 then addR r x n 4 else r
def joinedR (r : Rw) : Sm := if r.sb = 0 then emptyS else if r.sb = 1 then r.last else ⟨4, min (r.nd + 1) lidN, r.sb, r.dp + 1⟩
def overS (k : Int) (x : Sm) : Sm := ⟨k, min (x.nd + 1) lidN, 1, x.dp + 1⟩
def optR (y : Sm) : Nat → Sm
  | 0 => emptyS
  | n + 1 => overS 6 (if n = 0 then y else joinedR (joinR (joinR rw0 y 1) (optR y n) 1))
def repR (y : Sm) (mn mx : Int) : Sm :=
  if mx = -1 then joinedR (joinR (joinR rw0 y (max (mn - 1) 0)) (overS 6 y) 1)
  else joinedR (joinR (joinR rw0 y mn) (optR y (mx - mn).toNat) 1)
mutual
def sumS : Tr → Sm
  | .mk k _ _ l n m _ _ _ =>
    if k = 7 then overS 7 ((sumsS l).headD emptyS)
    else if k = 6 then repR ((sumsS l).headD emptyS) n m
    else if k = 4 then joinedR ((sumsS l).foldl (fun r x => joinR r x 1) rw0)
    else if k = 5 then (fun r : Rw => ⟨5, min (r.nd + 1) lidN, r.sb, r.dp + 1⟩) ((sumsS l).foldl (fun r x => addR r x 1 5) rw0)
    else ⟨k, 1, 0, 1⟩
def sumsS : List Tr → List Sm
  | [] => []
  | t :: l => sumS t :: sumsS l
end
theorem sumsS_map : ∀ l : List Tr, sumsS l = l.map sumS
  | [] => rfl
  | t :: l => by rw [sumsS, sumsS_map l]; rfl
def K3 : Int := 300000
theorem K3_ge : 1000 ≤ K3 := by decide
theorem K3_le : K3 ≤ lidN := by decide
/-- What is reckoned of a tree that stands there: right below K3. -/
structure CS (x : Sm) (t : Tr) : Prop where
  kd : x.kd = t.kind
  nd : min x.nd K3 = min (size t : Int) K3
  n0 : 1 ≤ x.nd
  s0 : 0 ≤ x.sb
  sb : t.kind = 4 ∨ t.kind = 5 → min x.sb K3 = min (t.subs.length : Int) K3
structure JW (r : Rw) (l : List Tr) : Prop where
  nd : min r.nd (K3 - 1) = min (sizes l : Int) (K3 - 1)
  n0 : 0 ≤ r.nd
  s0 : 0 ≤ r.sb
  sb : min r.sb K3 = min (l.length : Int) K3
  last : ∀ x, l = [x] → CS r.last x
theorem JW.nil : JW rw0 [] := ⟨by decide, by decide, by decide, by decide, by simp⟩
theorem CS.empty {t : Tr} (h : t = emptyT) : CS emptyS t := by subst h; exact ⟨rfl, by decide, by decide, by decide, by decide⟩
theorem min_mul2 {n : Nat} {a b c : Int} (ha : 0 ≤ a) (hb : 0 ≤ b) (hc : 0 < c) (h : min a c = min b c) (hn : 0 < n) : min ((n : Int) * a) c = min ((n : Int) * b) c := by
  rw [← min_mul ha hc hn, h, min_mul hb hc hn]
theorem as_low {a b c : Int} (h : min a c = min b c) : min (a - 1) (c - 1) = min (b - 1) (c - 1) := by omega
theorem as_add {a b x y c d : Int} (h1 : min a c = min b c) (h2 : min x c = min y c) (_ha : 0 ≤ a) (_hb : 0 ≤ b) (_hx : 0 ≤ x) (_hy : 0 ≤ y) (hd : c ≤ d) : min (min (a + x) d) c = min (b + y) c := by omega
theorem as_up {a b c d : Int} (h1 : min a (c - 1) = min b (c - 1)) (_ha : 0 ≤ a) (hd : c ≤ d) : min (min (a + 1) d) c = min (b + 1) c := by omega
theorem as_up2 {a b c d : Int} (h1 : min a c = min b c) (_ha : 0 ≤ a) (hd : c ≤ d) : min (min (a + 1) d) c = min (b + 1) c := by omega
theorem one_len {n m a : Nat} (h : a + n * m = 1) (hn : 0 < n) (hm : 2 ≤ m) : False := by
  have : n * 2 ≤ n * m := Nat.mul_le_mul_left n hm
  omega
/-- A form's Subs, or itself, so many times more. -/
theorem JW.add {r : Rw} {l : List Tr} {x : Sm} {t : Tr} (h : JW r l) (hx : CS x t) (flat : Int) (hf : flat = 4 ∨ flat = 5) (h2 : t.kind = flat → 2 ≤ t.subs.length) (n : Nat) :
    JW (addR r x n flat) (l ++ (List.replicate n (if t.kind = flat then t.subs else [t])).flatten) := by
  obtain ⟨e1, e2, s0, e3, e4⟩ := h
  have x0 := hx.s0
  by_cases h0 : n = 0
  · subst h0
    rw [addR, if_pos (by rfl)]
    simpa using JW.mk e1 e2 s0 e3 e4
  have hn : 0 < n := Nat.pos_of_ne_zero h0
  rw [addR, if_neg (by omega)]
  have hK := K3_ge
  have hKl := K3_le
  have x1 := hx.n0
  by_cases hk : t.kind = flat
  · rw [if_pos (by rw [hx.kd]; exact hk), if_pos hk]
    have a1 : min (x.nd - 1) (K3 - 1) = min (sizes t.subs : Int) (K3 - 1) := by
      have := as_low hx.nd
      rwa [size_subs, Int.natCast_add, show ((sizes t.subs : Nat) : Int) + ((1 : Nat) : Int) - 1 = (sizes t.subs : Int) from by omega] at this
    have a2 := hx.sb (by rw [hk]; exact hf)
    have m1 : (0 : Int) ≤ (n : Int) * (x.nd - 1) := Int.mul_nonneg (by omega) (by omega)
    have m2 : (0 : Int) ≤ (n : Int) * x.sb := Int.mul_nonneg (by omega) x0
    have m3 : (0 : Int) ≤ (n : Int) * (sizes t.subs : Int) := Int.mul_nonneg (by omega) (by omega)
    have m4 : (0 : Int) ≤ (n : Int) * (t.subs.length : Int) := Int.mul_nonneg (by omega) (by omega)
    refine ⟨?_, ?_, Int.le_min.2 ⟨by omega, by decide⟩, ?_, ?_⟩
    · rw [sizes_append, sizes_many, Int.natCast_add, Int.natCast_mul]
      exact as_add e1 (min_mul2 (by omega) (by omega) (by omega) a1 hn) e2 (by omega) m1 m3 (by omega)
    · exact Int.le_min.2 ⟨by omega, by decide⟩
    · rw [List.length_append, length_many, Int.natCast_add, Int.natCast_mul]
      exact as_add e3 (min_mul2 x0 (by omega) (by omega) a2 hn) s0 (by omega) m2 m4 hKl
    · intro y hy
      exfalso
      have hl := congrArg List.length hy
      rw [List.length_append, length_many, List.length_singleton] at hl
      exact one_len hl hn (h2 hk)
  · rw [if_neg (by rw [hx.kd]; exact hk), if_neg hk]
    have m1 : (0 : Int) ≤ (n : Int) * x.nd := Int.mul_nonneg (by omega) (by omega)
    have m3 : (0 : Int) ≤ (n : Int) * (size t : Int) := Int.mul_nonneg (by omega) (by omega)
    have a1 : min x.nd (K3 - 1) = min (size t : Int) (K3 - 1) := ar_down hx.nd
    refine ⟨?_, ?_, Int.le_min.2 ⟨by omega, by decide⟩, ?_, ?_⟩
    · rw [sizes_append, sizes_many, Int.natCast_add, Int.natCast_mul, show sizes [t] = size t by simp [sizes]]
      exact as_add e1 (min_mul2 (by omega) (by omega) (by omega) a1 hn) e2 (by omega) m1 m3 (by omega)
    · exact Int.le_min.2 ⟨by omega, by decide⟩
    · rw [List.length_append, length_many, Int.natCast_add, Int.natCast_mul, List.length_singleton]
      exact as_add e3 (by rw [Int.natCast_one, Int.mul_one]) s0 (by omega) (by omega) (by omega) hKl
    · intro y hy
      have hl := congrArg List.length hy
      rw [List.length_append, length_many, List.length_singleton, List.length_singleton] at hl
      have hl0 : l = [] := List.eq_nil_of_length_eq_zero (by omega)
      obtain rfl : n = 1 := by omega
      rw [hl0] at hy
      simp at hy
      rw [← hy]
      exact hx
theorem JW.form {r : Rw} {l : List Tr} (h : JW r l) : CS (joinedR r) (row l) := by
  obtain ⟨h1, h2, h5, h3, h4⟩ := h
  have hK := K3_ge
  rcases l with _ | ⟨a, _ | ⟨b, l⟩⟩
  · have : r.sb = 0 := by
      have e : min r.sb K3 = 0 := h3
      omega
    rw [joinedR, if_pos this]
    exact CS.empty rfl
  · have : r.sb = 1 := by
      have e : min r.sb K3 = min 1 K3 := h3
      omega
    rw [joinedR, if_neg (by omega), if_pos this]
    exact h4 a rfl
  · have h3' : min r.sb K3 = min ((l.length : Int) + 2) K3 := h3
    rw [joinedR, if_neg (by omega), if_neg (by omega)]
    refine ⟨rfl, ?_, ?_, h5, fun _ => h3⟩
    · rw [show size (row (a :: b :: l)) = sizes (a :: b :: l) + 1 from size_subs (catT (a :: b :: l)), Int.natCast_add]
      exact as_up h1 h2 K3_le
    · exact Int.le_min.2 ⟨by omega, by decide⟩
theorem CS.over {x : Sm} {t u : Tr} (h : CS x t) (k : Int) (hk : k = 6 ∨ k = 7) (hu : u.kind = k) (hs : u.subs = [t]) : CS (overS k x) u := by
  have hn := h.n0
  refine ⟨hu.symm, ?_, Int.le_min.2 ⟨by omega, by decide⟩, (by decide : (0 : Int) ≤ 1), fun h2 => by omega⟩
  rw [size_subs, hs, show sizes [t] = size t by simp [sizes], Int.natCast_add]
  exact as_up2 h.nd (by omega) K3_le
theorem subs_two {t : Tr} (h : allB t = true) (hk : t.kind = 4 ∨ t.kind = 5) : 2 ≤ t.subs.length := by
  cases kinds h with
  | cat l hc hs => exact hc
  | alt l hc hs => exact hc
  | empty => simp [emptyT, Tr.kind] at hk
  | cls r hr => simp [Tr.kind] at hk
  | ass a ha => simp [Tr.kind] at hk
  | rep x n m z hx h0 hb hm => simp [repT, Tr.kind] at hk
  | group x i s hx h0 hb hm => simp [groupT, Tr.kind] at hk
theorem JW.join {r : Rw} {l : List Tr} {x : Sm} {t : Tr} (h : JW r l) (hx : CS x t) (ht : allB t = true) (n : Nat) : JW (joinR r x n) (l ++ (List.replicate n (putT t)).flatten) := by
  unfold joinR
  by_cases h1 : t.kind = 1
  · rw [if_neg (by rw [hx.kd]; simpa using h1), put_empty h1]
    simpa using h
  · rw [if_pos (by rw [hx.kd]; exact h1), show putT t = if t.kind = 4 then t.subs else [t] from if_neg h1]
    exact h.add hx 4 (.inl rfl) (fun h4 => subs_two ht (.inl h4)) n
theorem CS.rep {x : Sm} {t : Tr} (h : CS x t) (mn mx : Int) (lz : Bool) : CS (overS 6 x) (repT t mn mx lz) := h.over 6 (.inl rfl) rfl rfl
theorem opt_cs {x : Sm} {t : Tr} (h : CS x t) (ht : Good t) (lz : Bool) : ∀ n, CS (optR x n) (optS t lz n)
  | 0 => CS.empty rfl
  | n + 1 => by
    rw [optR, optS]
    refine CS.rep ?_ _ _ _
    by_cases h0 : n = 0
    · subst h0
      rw [if_pos rfl, optS, put_empty (show emptyT.kind = 1 from rfl), List.append_nil, row_put ht.1]
      exact h
    · rw [if_neg h0]
      have h1 := ((JW.nil.join h ht.1 1).join (opt_cs h ht lz n) (opt_good ht lz n).1 1).form
      simpa using h1
theorem rep_cs {x : Sm} {t : Tr} (h : CS x t) (ht : Good t) {mn mx : Int} (lz : Bool) (h0 : 0 ≤ mn) (hm : mx = -1 ∨ mn ≤ mx) (hm0 : mx ≠ 0) : CS (repR x mn mx) (unfoldS t mn mx lz) := by
  unfold repR unfoldS
  have hrg := rep_good ht (mn := 1) (mx := -1) lz (.inr (.inl ⟨rfl, rfl⟩))
  by_cases h1 : mx = -1
  · subst h1
    rw [if_pos rfl]
    by_cases h2 : mn = 0
    · subst h2
      rw [if_pos ⟨by decide, rfl⟩]
      have h3 := ((JW.nil.join h ht.1 0).join (h.rep 0 (-1) lz) (rep_good ht lz (.inl ⟨rfl, rfl⟩)).1 1).form
      rw [show ((0 : Nat) : Int) = max (0 - 1) 0 from by decide] at h3
      simpa [putT, repT, Tr.kind, row, -Int.zero_sub] using h3
    · rw [if_neg (by omega), if_pos (by decide)]
      have h3 := ((JW.nil.join h ht.1 (mn - 1).toNat).join (h.rep 1 (-1) lz) hrg.1 1).form
      rw [show (((mn - 1).toNat : Nat) : Int) = max (mn - 1) 0 from by omega] at h3
      simpa using h3
  · rw [if_neg h1, if_neg (by omega), if_neg (by omega)]
    have h3 := ((JW.nil.join h ht.1 mn.toNat).join (opt_cs h ht lz (mx - mn).toNat) (opt_good ht lz _).1 1).form
    rw [show ((mn.toNat : Nat) : Int) = mn from by omega] at h3
    simpa using h3
theorem rep_zero {x : Sm} {t : Tr} (h : CS x t) (ht : Good t) : CS (repR x 0 0) emptyT := by
  have h3 := ((JW.nil.join h ht.1 0).join (opt_cs h ht false 0) (opt_good ht false 0).1 1).form
  have e : putT (optS t false 0) = [] := put_empty rfl
  rw [e] at h3
  simpa [repR, row] using h3
theorem leaf_cs (k : Int) (r : List (Int × Int)) (a : Int) (hk : k < 4) : CS (sumS (.mk k r a [] 0 0 false 0 .empty)) (simpleS (.mk k r a [] 0 0 false 0 .empty)) := by
  rw [sumS, simpleS, if_neg (by omega), if_neg (by omega), if_neg (by omega), if_neg (by omega), if_neg (by omega), if_neg (by omega), if_neg (by omega), if_neg (by omega)]
  refine ⟨rfl, rfl, (by decide : (1 : Int) ≤ 1), (by decide : (0 : Int) ≤ 0), fun h => ?_⟩
  change k = 4 ∨ k = 5 at h
  omega
theorem alt_cs : ∀ (l r : List Tr) (q : Rw), (∀ s ∈ l, allB (simpleS s) = true ∧ CS (sumS s) (simpleS s)) → JW q r → JW ((l.map sumS).foldl (fun r x => addR r x 1 5) q) (r ++ (l.map simpleS).flatMap altPut)
  | [], r, q, _, hq => by simpa using hq
  | t :: l, r, q, h, hq => by
    have ht := h t List.mem_cons_self
    rw [List.map_cons, List.foldl_cons, List.map_cons, List.flatMap_cons, ← List.append_assoc]
    refine alt_cs l _ _ (fun s hs => h s (List.mem_cons_of_mem _ hs)) ?_
    have := hq.add ht.2 5 (.inr rfl) (fun h5 => subs_two ht.1 (.inr h5)) 1
    rw [altPut]
    simpa using this
theorem cat_cs : ∀ (l r : List Tr) (q : Rw), (∀ s ∈ l, allB (simpleS s) = true ∧ CS (sumS s) (simpleS s)) → JW q r → JW ((l.map sumS).foldl (fun r x => joinR r x 1) q) (r ++ (l.map simpleS).flatMap putT)
  | [], r, q, _, hq => by simpa using hq
  | t :: l, r, q, h, hq => by
    have ht := h t List.mem_cons_self
    rw [List.map_cons, List.foldl_cons, List.map_cons, List.flatMap_cons, ← List.append_assoc]
    refine cat_cs l _ _ (fun s hs => h s (List.mem_cons_of_mem _ hs)) ?_
    have := hq.join ht.2 ht.1 1
    simpa using this
/-- What is reckoned of a sound tree is what its simple form has, below K3. -/
theorem sum_form : ∀ t : Tr, allB t = true → CS (sumS t) (simpleS t) := by
  intro t
  induction t using Tr.ind with
  | h t ih =>
    intro h
    cases kinds h with
    | empty => exact leaf_cs 1 [] 0 (by decide)
    | cls r hr => exact leaf_cs 2 r 0 (by decide)
    | ass a ha => exact leaf_cs 3 [] a (by decide)
    | cat l h2 hs =>
      rw [catT, simpleS, simplesS_map, if_neg (by decide), if_pos rfl, sumS, sumsS_map, if_neg (by decide), if_neg (by decide), if_pos rfl]
      have := (cat_cs l [] rw0 (fun s hs' => ⟨(simple_good s (hs s hs')).1, ih s hs' (hs s hs')⟩) JW.nil).form
      simpa using this
    | alt l h2 hs =>
      rw [altT, simpleS, simplesS_map, if_neg (by decide), if_neg (by decide), if_pos rfl, sumS, sumsS_map, if_neg (by decide), if_neg (by decide), if_neg (by decide), if_pos rfl]
      obtain ⟨a1, a2, a3, a4, a5⟩ := alt_cs l [] rw0 (fun s hs' => ⟨(simple_good s (hs s hs')).1, ih s hs' (hs s hs')⟩) JW.nil
      rw [List.nil_append] at a1 a4
      have hK := K3_ge
      refine ⟨rfl, ?_, Int.le_min.2 ⟨by omega, by decide⟩, a3, fun _ => a4⟩
      rw [show size (altT ((l.map simpleS).flatMap altPut)) = sizes ((l.map simpleS).flatMap altPut) + 1 from size_subs _, Int.natCast_add]
      exact as_up a1 a2 K3_le
    | rep x n m z hx h0 h1 hm =>
      rw [repT, simpleS, simplesS_map, if_neg (by decide), if_neg (by decide), if_neg (by decide), if_pos rfl, sumS, sumsS_map, if_neg (by decide), if_pos rfl]
      have hi := ih x List.mem_cons_self hx
      simp only [List.map_cons, List.map_nil, List.headD_cons]
      by_cases hm0 : m = 0
      · subst hm0
        obtain rfl : n = 0 := by omega
        rw [if_pos rfl]
        exact rep_zero hi (simple_good x hx)
      · rw [if_neg hm0]
        exact rep_cs hi (simple_good x hx) z h0 (by omega) hm0
    | group x i s hx h0 h1 hm =>
      rw [groupT, simpleS, simplesS_map, if_pos rfl, sumS, sumsS_map, if_pos rfl]
      have hi := ih x List.mem_cons_self hx
      simp only [List.map_cons, List.map_nil, List.headD_cons]
      exact hi.over 7 (.inr rfl) rfl rfl
/-- Of bounds. -/
structure BS (x : Sm) (d : Int) : Prop where
  k0 : 0 ≤ x.kd ∧ x.kd ≤ 7
  n0 : 1 ≤ x.nd ∧ x.nd ≤ lidN
  s0 : 0 ≤ x.sb ∧ x.sb ≤ lidN
  d0 : 1 ≤ x.dp ∧ x.dp ≤ d
structure BR (r : Rw) (d : Int) : Prop where
  n0 : 0 ≤ r.nd ∧ r.nd ≤ lidN
  s0 : 0 ≤ r.sb ∧ r.sb ≤ lidN
  d0 : 0 ≤ r.dp ∧ r.dp ≤ d
  ls : r.sb = 1 → BS r.last d
theorem BR.nil {d : Int} (hd : 0 ≤ d) : BR rw0 d := ⟨by decide, by decide, ⟨by decide, hd⟩, fun h => absurd h (by decide)⟩
theorem BS.empty {d : Int} (hd : 1 ≤ d) : BS emptyS d := ⟨by decide, by decide, by decide, by decide, hd⟩
theorem BS.more {x : Sm} {d e : Int} (h : BS x d) (hd : d ≤ e) : BS x e := ⟨h.k0, h.n0, h.s0, h.d0.1, Int.le_trans h.d0.2 hd⟩
theorem BR.add {r : Rw} {x : Sm} {d : Int} (h : BR r d) (hx : BS x d) {n flat : Int} (hn : 0 ≤ n) (h2 : x.kd = flat → 2 ≤ x.sb) : BR (addR r x n flat) d := by
  have hl : (1000 : Int) ≤ lidN := by decide
  obtain ⟨n1, n2⟩ := h.n0
  obtain ⟨s1, s2⟩ := h.s0
  obtain ⟨d1, d2⟩ := h.d0
  obtain ⟨x1, x2⟩ := hx.n0
  obtain ⟨y1, y2⟩ := hx.s0
  obtain ⟨z1, z2⟩ := hx.d0
  rw [addR]
  by_cases h0 : n = 0
  · rw [if_pos h0]; exact h
  rw [if_neg h0]
  by_cases hk : x.kd = flat
  · rw [if_pos hk]
    have m1 : 0 ≤ n * (x.nd - 1) := Int.mul_nonneg hn (by omega)
    have m2 : 0 ≤ n * x.sb := Int.mul_nonneg hn y1
    have m3 : 1 * 2 ≤ n * x.sb := Int.mul_le_mul (by omega) (h2 hk) (by omega) hn
    refine ⟨⟨Int.le_min.2 ⟨by omega, by omega⟩, Int.min_le_right _ _⟩, ⟨Int.le_min.2 ⟨by omega, by omega⟩, Int.min_le_right _ _⟩, ⟨by show 0 ≤ max r.dp (x.dp - 1); omega, by show max r.dp (x.dp - 1) ≤ d; omega⟩, fun e => ?_⟩
    exfalso
    have e2 : min (r.sb + n * x.sb) lidN = 1 := e
    omega
  · rw [if_neg hk]
    have m1 : 0 ≤ n * x.nd := Int.mul_nonneg hn (by omega)
    exact ⟨⟨Int.le_min.2 ⟨by omega, by omega⟩, Int.min_le_right _ _⟩, ⟨Int.le_min.2 ⟨by omega, by omega⟩, Int.min_le_right _ _⟩, ⟨by show 0 ≤ max r.dp x.dp; omega, by show max r.dp x.dp ≤ d; omega⟩, fun _ => hx⟩
theorem BR.more {r : Rw} {d e : Int} (h : BR r d) (hd : d ≤ e) : BR r e := ⟨h.n0, h.s0, ⟨h.d0.1, Int.le_trans h.d0.2 hd⟩, fun q => (h.ls q).more hd⟩
theorem BR.form {r : Rw} {d : Int} (h : BR r d) : BS (joinedR r) (d + 1) := by
  have hl : (1000 : Int) ≤ lidN := by decide
  obtain ⟨n1, n2⟩ := h.n0
  obtain ⟨s1, s2⟩ := h.s0
  obtain ⟨d1, d2⟩ := h.d0
  rw [joinedR]
  by_cases h0 : r.sb = 0
  · rw [if_pos h0]; exact BS.empty (by omega)
  by_cases h1 : r.sb = 1
  · rw [if_neg h0, if_pos h1]; exact (h.ls h1).more (by omega)
  rw [if_neg h0, if_neg h1]
  exact ⟨(by decide : (0 : Int) ≤ 4 ∧ (4 : Int) ≤ 7), ⟨Int.le_min.2 ⟨by omega, by omega⟩, Int.min_le_right _ _⟩, ⟨s1, s2⟩, ⟨by show 1 ≤ r.dp + 1; omega, by show r.dp + 1 ≤ d + 1; omega⟩⟩
theorem BS.over {x : Sm} {d k : Int} (h : BS x d) (hk : k = 6 ∨ k = 7) : BS (overS k x) (d + 1) := by
  have hl : (1000 : Int) ≤ lidN := by decide
  obtain ⟨n1, n2⟩ := h.n0
  obtain ⟨d1, d2⟩ := h.d0
  exact ⟨by show 0 ≤ k ∧ k ≤ 7; omega, ⟨Int.le_min.2 ⟨by omega, by omega⟩, Int.min_le_right _ _⟩, (by decide : (0 : Int) ≤ 1 ∧ (1 : Int) ≤ lidN), ⟨by show 1 ≤ x.dp + 1; omega, by show x.dp + 1 ≤ d + 1; omega⟩⟩
theorem CS.two {x : Sm} {t : Tr} (h : CS x t) (ht : allB t = true) (hk : x.kd = 4 ∨ x.kd = 5) : 2 ≤ x.sb := by
  rw [h.kd] at hk
  have h1 := h.sb hk
  have h2 := subs_two ht hk
  have hK := K3_ge
  omega
theorem BR.join {r : Rw} {x : Sm} {t : Tr} {d : Int} (h : BR r d) (hx : BS x d) (hc : CS x t) (ht : allB t = true) {n : Int} (hn : 0 ≤ n) : BR (joinR r x n) d := by
  unfold joinR
  split
  · exact h.add hx hn fun h4 => hc.two ht (.inl h4)
  · exact h
theorem opt_bs {x : Sm} {t : Tr} {d : Int} (h : BS x d) (hc : CS x t) (ht : Good t) (hd : 1 ≤ d) : ∀ n : Nat, BS (optR x n) (d + 2 * n)
  | 0 => BS.empty (by omega)
  | n + 1 => by
    rw [optR]
    by_cases h0 : n = 0
    · subst h0
      rw [if_pos rfl]
      exact (h.over (.inl rfl)).more (by omega)
    · rw [if_neg h0]
      have ih := opt_bs h hc ht hd n
      have h1 : BR (joinR (joinR rw0 x 1) (optR x n) 1) (d + 2 * n) := ((BR.nil (by omega)).join (h.more (by omega)) hc ht.1 (by decide)).join ih (opt_cs hc ht false n) (opt_good ht false n).1 (by decide)
      exact (h1.form.over (.inl rfl)).more (by omega)
theorem rep_bs {x : Sm} {t : Tr} {d : Int} (h : BS x d) (hc : CS x t) (ht : Good t) (hd : 1 ≤ d) {mn mx : Int} (h0 : 0 ≤ mn) (hm : mx ≤ 1000) : BS (repR x mn mx) (d + 2001) := by
  unfold repR
  split
  · have h1 := ((BR.nil (d := d + 1) (by omega)).join (h.more (by omega)) hc ht.1 (n := max (mn - 1) 0) (by omega)).join (h.over (k := 6) (.inl rfl)) (hc.rep 0 (-1) false) (rep_good ht false (.inl ⟨rfl, rfl⟩)).1 (n := 1) (by decide)
    exact h1.form.more (by omega)
  · have ho := (opt_bs h hc ht hd (mx - mn).toNat).more (e := d + 2000) (by omega)
    have h1 := ((BR.nil (d := d + 2000) (by omega)).join (h.more (by omega)) hc ht.1 h0).join ho (opt_cs hc ht false _) (opt_good ht false _).1 (n := 1) (by decide)
    exact h1.form.more (by omega)
theorem deeps_mem {l : List Tr} {t : Tr} (h : t ∈ l) : deep t ≤ deeps l := by
  induction l with
  | nil => simp at h
  | cons a l ih =>
    rw [deeps]
    rcases List.mem_cons.1 h with rfl | h
    · omega
    · have := ih h; omega
theorem cat_br {d : Int} : ∀ (l : List Tr) (q : Rw), (∀ s ∈ l, allB (simpleS s) = true ∧ CS (sumS s) (simpleS s) ∧ BS (sumS s) d) → BR q d → BR ((l.map sumS).foldl (fun r x => joinR r x 1) q) d
  | [], q, _, hq => hq
  | t :: l, q, h, hq => by
    have ht := h t List.mem_cons_self
    rw [List.map_cons, List.foldl_cons]
    exact cat_br l _ (fun s hs => h s (List.mem_cons_of_mem _ hs)) (hq.join ht.2.2 ht.2.1 ht.1 (by decide))
theorem alt_br {d : Int} : ∀ (l : List Tr) (q : Rw), (∀ s ∈ l, allB (simpleS s) = true ∧ CS (sumS s) (simpleS s) ∧ BS (sumS s) d) → BR q d → BR ((l.map sumS).foldl (fun r x => addR r x 1 5) q) d
  | [], q, _, hq => hq
  | t :: l, q, h, hq => by
    have ht := h t List.mem_cons_self
    rw [List.map_cons, List.foldl_cons]
    exact alt_br l _ (fun s hs => h s (List.mem_cons_of_mem _ hs)) (hq.add ht.2.2 (by decide) fun h5 => ht.2.1.two ht.1 (.inr h5))
theorem leaf_bs (k : Int) (r : List (Int × Int)) (a : Int) (hk : 0 ≤ k ∧ k < 4) : BS (sumS (.mk k r a [] 0 0 false 0 .empty)) 2001 := by
  rw [sumS, if_neg (by omega), if_neg (by omega), if_neg (by omega), if_neg (by omega)]
  exact ⟨⟨hk.1, by show k ≤ 7; omega⟩, (by decide : (1 : Int) ≤ 1 ∧ (1 : Int) ≤ lidN), (by decide : (0 : Int) ≤ 0 ∧ (0 : Int) ≤ lidN), (by decide : (1 : Int) ≤ 1 ∧ (1 : Int) ≤ 2001)⟩
theorem sum_bounds : ∀ t : Tr, allB t = true → BS (sumS t) (2001 * (deep t : Int)) := by
  intro t
  induction t using Tr.ind with
  | h t ih =>
    intro h
    cases kinds h with
    | empty => exact leaf_bs 1 [] 0 (by decide)
    | cls r hr => exact leaf_bs 2 r 0 (by decide)
    | ass a ha => exact leaf_bs 3 [] a (by decide)
    | cat l h2 hs =>
      have hd : deep (catT l) = deeps l + 1 := deep_subs _
      rw [hd, catT, sumS, sumsS_map, if_neg (by decide), if_neg (by decide), if_pos rfl]
      refine (BR.form (d := 2001 * (deeps l : Int)) (cat_br l rw0 (fun s hs' => ⟨(simple_good s (hs s hs')).1, sum_form s (hs s hs'), (ih s hs' (hs s hs')).more ?_⟩) (BR.nil (by omega)))).more (by omega)
      have := deeps_mem hs'
      omega
    | alt l h2 hs =>
      have hd : deep (altT l) = deeps l + 1 := deep_subs _
      rw [hd, altT, sumS, sumsS_map, if_neg (by decide), if_neg (by decide), if_neg (by decide), if_pos rfl]
      have hb : BR ((l.map sumS).foldl (fun r x => addR r x 1 5) rw0) (2001 * (deeps l : Int)) := alt_br l rw0 (fun s hs' => ⟨(simple_good s (hs s hs')).1, sum_form s (hs s hs'), (ih s hs' (hs s hs')).more (by have := deeps_mem hs'; omega)⟩) (BR.nil (by omega))
      obtain ⟨n1, n2⟩ := hb.n0
      obtain ⟨d1, d2⟩ := hb.d0
      have hl : (1000 : Int) ≤ lidN := by decide
      exact ⟨(by decide : (0 : Int) ≤ 5 ∧ (5 : Int) ≤ 7), ⟨Int.le_min.2 ⟨by omega, by omega⟩, Int.min_le_right _ _⟩, hb.s0, ⟨by show (1 : Int) ≤ _ + 1; omega, by show _ + 1 ≤ (_ : Int); omega⟩⟩
    | rep x n m z hx h0 h1 hm =>
      have hd : deep (repT x n m z) = deep x + 1 := by rw [deep_subs]; simp [repT, Tr.subs, deeps]
      rw [hd, repT, sumS, sumsS_map, if_neg (by decide), if_pos rfl]
      have hi := ih x List.mem_cons_self hx
      simp only [List.map_cons, List.map_nil, List.headD_cons]
      refine (rep_bs hi (sum_form x hx) (simple_good x hx) (by have := deep_subs x; omega) h0 (by omega)).more (by omega)
    | group x i s hx h0 h1 hm =>
      have hd : deep (groupT x i s) = deep x + 1 := by rw [deep_subs]; simp [groupT, Tr.subs, deeps]
      rw [hd, groupT, sumS, sumsS_map, if_pos rfl]
      have hi := ih x List.mem_cons_self hx
      simp only [List.map_cons, List.map_nil, List.headD_cons]
      exact (hi.over (.inr rfl)).more (by omega)
end Go.Proofs.Ytfgelkfnbohmmaa.Tr
