/- Programs joined: what prog.Join makes of them; what it finds. No program here. -/
import Derived.Test.YtfgelkfnbohmmaaP04
import Derived.Test.YtfgelkfnbohmmaaP05
namespace Go.Proofs.Ytfgelkfnbohmmaa.Mach
/-- Where each begins, from a number on. -/
def startsJ : List Prg → Nat → List Nat
  | [], _ => []
  | p :: l, o => (o + p.start.toNat) :: startsJ l (o + p.insts.length)
/-- The copies, from a number and a which on. -/
def movsJ : List Prg → Nat → Nat → List Ins
  | [], _, _ => []
  | p :: l, o, wh => p.insts.map (mvI o (wh : Int)) ++ movsJ l (o + p.insts.length) (wh + 1)
/-- The alternatives ahead of them. -/
def altsJ : List Nat → Nat → List Ins
  | [], _ => []
  | s :: l, i => if l.isEmpty then [] else ⟨2, (s : Nat), (if l.length = 1 then (l.headD 0 : Nat) else (i + 1 : Nat)), 0, []⟩ :: altsJ l (i + 1)
def capsJ : List Prg → Int → Int
  | [], c => c
  | p :: l, c => capsJ l (max c p.caps)
def joinP (l : List Prg) : Prg := ⟨altsJ (startsJ l (l.length - 1)) 0 ++ movsJ l (l.length - 1) 0, if l.length = 1 then ((startsJ l 0).headD 0 : Nat) else 0, capsJ l 0⟩
/-- What the first that finds something finds; it is the how manieth. -/
def firstJ (t : List Int) (b : Nat) (C : Nat) : List Prg → Nat → Option (List Int × Int)
  | [], _ => none
  | p :: l, i => match resAt p t b with
    | some w => some (w.1 ++ List.replicate (C - p.caps.toNat) (-1), (i : Int))
    | none => firstJ t b C l (i + 1)
def sumJ : List Prg → Nat
  | [] => 0
  | p :: l => p.insts.length + sumJ l
theorem startsJ_len : ∀ (l : List Prg) (o : Nat), (startsJ l o).length = l.length
  | [], _ => rfl
  | p :: l, o => by rw [startsJ, List.length_cons, startsJ_len l, List.length_cons]
theorem movsJ_len : ∀ (l : List Prg) (o wh : Nat), (movsJ l o wh).length = sumJ l
  | [], _, _ => rfl
  | p :: l, o, wh => by rw [movsJ, List.length_append, List.length_map, movsJ_len l, sumJ]
theorem altsJ_len : ∀ (l : List Nat) (i : Nat), (altsJ l i).length = l.length - 1
  | [], _ => rfl
  | s :: l, i => by
    rw [altsJ]
    cases l with
    | nil => rfl
    | cons u l => rw [if_neg (by simp), List.length_cons, altsJ_len (u :: l)]; simp
theorem capsJ_ge : ∀ (l : List Prg) (c : Int), c ≤ capsJ l c ∧ ∀ p ∈ l, p.caps ≤ capsJ l c
  | [], c => ⟨Int.le_refl _, by simp⟩
  | p :: l, c => by
    obtain ⟨h1, h2⟩ := capsJ_ge l (max c p.caps)
    rw [capsJ]
    refine ⟨by omega, fun q hq => ?_⟩
    rcases List.mem_cons.1 hq with rfl | hq
    · omega
    · exact h2 q hq
theorem capsJ_one : ∀ (l : List Prg) (c : Int), capsJ l c = c ∨ ∃ p ∈ l, capsJ l c = p.caps
  | [], c => .inl rfl
  | p :: l, c => by
    rw [capsJ]
    rcases capsJ_one l (max c p.caps) with h | ⟨q, hq, h⟩
    · rcases Int.le_total c p.caps with hc | hc
      · exact .inr ⟨p, List.mem_cons_self, by omega⟩
      · exact .inl (by omega)
    · exact .inr ⟨q, List.mem_cons_of_mem _ hq, h⟩
section
variable {P : Prg} {t : List Int} {b : Nat} {C : Nat}
/-- From the entry of the rest on. -/
def entryJ : List Prg → Nat → Nat → Nat
  | [], _, _ => 0
  | p :: l, i, o => if l.isEmpty then o + p.start.toNat else i
/-- The rest stands in the whole. -/
def RestAt (P : Prg) : List Prg → Nat → Nat → Prop
  | [], _, _ => True
  | p :: l, i, o => CopyAt P p o (i : Int) ∧ (l ≠ [] → P.insts[i]? = some ⟨2, (o + p.start.toNat : Nat), (entryJ l (i + 1) (o + p.insts.length) : Nat), 0, []⟩) ∧ RestAt P l (i + 1) (o + p.insts.length)
/-- Nothing of the rest was met. -/
def FreeAt (N : Nat → Nat → Bool) (l : List Prg) (i o : Nat) : Prop := (∀ a k, o ≤ a → a < o + sumJ l → N a k = false) ∧ ∀ a k, i ≤ a → a + 1 < i + l.length → N a k = false
theorem rest_done (hb : b ≤ t.length) : ∀ (l : List Prg) (i o : Nat) (N : Nat → Nat → Bool), l ≠ [] → (∀ p ∈ l, checkB p = true ∧ p.caps.toNat ≤ C) → i + l.length ≤ o + 1 → RestAt P l i o → FreeAt N l i o →
    ∃ N', DOne P t N (List.replicate C (-1)) (entryJ l i o, b) N' (firstJ t b C l i)
  | [], _, _, _, h, _, _, _, _ => absurd rfl h
  | p :: l, i, o, N, _, hp, hio, hr, hf => by
    obtain ⟨hc, hcap⟩ := hp p List.mem_cons_self
    obtain ⟨hcp, halt, hrest⟩ := hr
    obtain ⟨f1, f2⟩ := hf
    rw [sumJ] at f1
    rw [List.length_cons] at hio f2
    -- the copy of p, in a map that has nothing of it
    have one : ∀ N0 : Nat → Nat → Bool, (∀ a k, o ≤ a → a < o + p.insts.length → N0 a k = false) → ∃ N1, DOne P t N0 (List.replicate C (-1)) (o + p.start.toNat, b) N1 (rMap (i : Int) (List.replicate (C - p.caps.toNat) (-1)) (resAt p t b)) ∧ Out p o N0 N1 := by
      intro N0 h0
      obtain ⟨M', d⟩ := res_done (t := t) hc hb
      have hst := (head_of hc).2.2
      obtain ⟨N1, d1, -, o1⟩ := copy_one (ext := List.replicate (C - p.caps.toNat) (-1)) hc hcp d (N := N0) (by simp) (by simp only []; omega) hb (fun a k ha => h0 _ _ (by omega) (by omega))
      rw [List.replicate_append_replicate, show p.caps.toNat + (C - p.caps.toNat) = C from by omega] at d1
      exact ⟨N1, d1, o1⟩
    cases l with
    | nil =>
      obtain ⟨N1, d1, -⟩ := one N fun a k h1 h2 => f1 a k h1 (by omega)
      refine ⟨N1, ?_⟩
      have e1 : entryJ [p] i o = o + p.start.toNat := rfl
      have e2 : firstJ t b C [p] i = rMap (i : Int) (List.replicate (C - p.caps.toNat) (-1)) (resAt p t b) := by
        rw [firstJ]
        cases resAt p t b <;> rfl
      rw [e1, e2]; exact d1
    | cons p2 l =>
      have e1 : entryJ (p :: p2 :: l) i o = i := by rw [entryJ, if_neg (by simp)]
      rw [e1]
      rw [List.length_cons] at f2 hio
      have hNi : N i b = false := f2 i b (Nat.le_refl _) (by omega)
      obtain ⟨N1, d1, o1⟩ := one (setM N i b) fun a k h1 h2 => by
        unfold setM
        rw [if_neg fun e => by omega]
        exact f1 a k h1 (by omega)
      have hstep : ∀ {N' : Nat → Nat → Bool} {r : Option (List Int × Int)}, DMany P t (setM N i b) (List.replicate C (-1)) [(o + p.start.toNat, b), (entryJ (p2 :: l) (i + 1) (o + p.insts.length), b)] N' r → DOne P t N (List.replicate C (-1)) (i, b) N' r := fun hd => by
        refine .step (q := (i, b)) hNi (halt (by simp)) (by simp) ?_
        have hn : nexts t ⟨2, (o + p.start.toNat : Nat), (entryJ (p2 :: l) (i + 1) (o + p.insts.length) : Nat), 0, []⟩ b = [(o + p.start.toNat, b), (entryJ (p2 :: l) (i + 1) (o + p.insts.length), b)] := by
          simp only [nexts, Int.toNat_natCast]; rfl
        have hcs : capsAt ⟨2, (o + p.start.toNat : Nat), (entryJ (p2 :: l) (i + 1) (o + p.insts.length) : Nat), 0, []⟩ b (List.replicate C (-1)) = List.replicate C (-1) := by unfold capsAt; rw [if_neg (by simp)]
        rw [hn, hcs]
        exact hd
      rw [firstJ]
      cases hres : resAt p t b with
      | some w =>
        rw [hres] at d1
        exact ⟨N1, hstep (.stop d1)⟩
      | none =>
        rw [hres] at d1
        obtain ⟨N2, d2⟩ := rest_done hb (p2 :: l) (i + 1) (o + p.insts.length) N1 (by simp) (fun q hq => hp q (List.mem_cons_of_mem _ hq)) (by rw [List.length_cons]; have := (head_of hc).1; omega) hrest ⟨fun a k h1 h2 => by
          rw [o1 a k (.inr h1)]
          unfold setM
          rw [if_neg fun e => by omega]
          exact f1 a k (by omega) (by omega), fun a k h1 h2 => by
          rw [List.length_cons] at h2
          rw [o1 a k (.inl (by omega))]
          unfold setM
          rw [if_neg fun e => by omega]
          exact f2 a k (by omega) (by omega)⟩
        exact ⟨N2, hstep (.cons d1 (.one P t d2))⟩
end
theorem alts_at : ∀ (l : List Prg) (i o : Nat) (rest : List Ins) (pre : List Ins) (P : Prg), pre.length = i → P.insts = pre ++ altsJ (startsJ l o) i ++ rest → ∀ (k : Nat) (_ : k + 1 < l.length), P.insts[i + k]? = some ⟨2, ((startsJ l o).getD k 0 : Nat), (if k + 2 = l.length then ((startsJ l o).getD (k + 1) 0 : Nat) else (i + k + 1 : Nat)), 0, []⟩
  | [], _, _, _, _, _, _, _, k, hk => by simp at hk
  | [p], _, _, _, _, _, _, _, k, hk => by simp at hk
  | p :: p2 :: l, i, o, rest, pre, P, hpre, hP, k, hk => by
    have e : altsJ (startsJ (p :: p2 :: l) o) i = ⟨2, (o + p.start.toNat : Nat), (if (startsJ (p2 :: l) (o + p.insts.length)).length = 1 then ((startsJ (p2 :: l) (o + p.insts.length)).headD 0 : Nat) else (i + 1 : Nat)), 0, []⟩ :: altsJ (startsJ (p2 :: l) (o + p.insts.length)) (i + 1) := by
      rw [startsJ, altsJ, if_neg (by rw [startsJ]; simp)]
    cases k with
    | zero =>
      rw [hP, e, List.append_assoc, List.getElem?_append_right (by omega), hpre, show i + 0 - i = 0 from by omega]
      simp only [List.cons_append, List.getElem?_cons_zero, startsJ_len, List.length_cons, Option.some.injEq, Ins.mk.injEq, and_true, true_and]
      refine ⟨by rw [startsJ]; rfl, ?_⟩
      rw [startsJ, startsJ]
      cases l with
      | nil => simp [startsJ]
      | cons p3 l => simp
    | succ k =>
      have := alts_at (p2 :: l) (i + 1) (o + p.insts.length) rest (pre ++ [⟨2, (o + p.start.toNat : Nat), (if (startsJ (p2 :: l) (o + p.insts.length)).length = 1 then ((startsJ (p2 :: l) (o + p.insts.length)).headD 0 : Nat) else (i + 1 : Nat)), 0, []⟩]) P (by simp [hpre]) (by rw [hP, e]; simp [List.append_assoc]) k (by simp only [List.length_cons] at hk ⊢; omega)
      rw [show i + (k + 1) = i + 1 + k from by omega, this]
      simp only [List.length_cons]
      rw [show (startsJ (p :: p2 :: l) o) = (o + p.start.toNat) :: startsJ (p2 :: l) (o + p.insts.length) from rfl]
      simp only [List.getD_cons_succ, Option.some.injEq, Ins.mk.injEq, and_true, true_and]
      by_cases hkl : k + 2 = l.length + 1
      · rw [if_pos hkl, if_pos (by omega)]
      · rw [if_neg hkl, if_neg (by omega)]
theorem rest_at : ∀ (l : List Prg) (i o : Nat) (P : Prg), (∀ k, k + 1 < l.length → P.insts[i + k]? = some ⟨2, ((startsJ l o).getD k 0 : Nat), (if k + 2 = l.length then ((startsJ l o).getD (k + 1) 0 : Nat) else (i + k + 1 : Nat)), 0, []⟩) → (∀ j x, (movsJ l o i)[j]? = some x → P.insts[o + j]? = some x) → RestAt P l i o
  | [], _, _, _, _, _ => trivial
  | p :: l, i, o, P, ha, hm => by
    refine ⟨fun j x hx => hm j _ (by rw [movsJ, List.getElem?_append_left (by rw [List.length_map]; exact (List.getElem?_eq_some_iff.1 hx).1), List.getElem?_map, hx]; rfl), fun hl => ?_, rest_at l (i + 1) (o + p.insts.length) P (fun k hk => ?_) fun j x hx => ?_⟩
    · have hl1 : 1 ≤ l.length := by cases l with | nil => exact absurd rfl hl | cons u l => simp
      have := ha 0 (by rw [List.length_cons]; omega)
      rw [Nat.add_zero] at this
      rw [this]
      cases l with
      | nil => exact absurd rfl hl
      | cons p2 l =>
        rw [startsJ, startsJ, entryJ]
        simp only [List.getD_cons_zero, List.getD_cons_succ, List.length_cons]
        cases l with
        | nil => simp
        | cons p3 l => simp
    · have := ha (k + 1) (by rw [List.length_cons]; omega)
      rw [show i + 1 + k = i + (k + 1) from by omega, this]
      simp only [List.length_cons, startsJ, List.getD_cons_succ, Option.some.injEq, Ins.mk.injEq, and_true, true_and]
      by_cases hkl : k + 2 = l.length
      · rw [if_pos hkl, if_pos (by omega)]
      · rw [if_neg hkl, if_neg (by omega), show i + (k + 1) + 1 = i + 1 + k + 1 from by omega]
    · have := hm (p.insts.length + j) x (by rw [movsJ, List.getElem?_append_right (by rw [List.length_map]; omega), List.length_map, Nat.add_sub_cancel_left]; exact hx)
      rw [Nat.add_assoc]; exact this
/-- What the joined program finds. -/
theorem join_res {t : List Int} {b : Nat} (hb : b ≤ t.length) {l : List Prg} (hl : l ≠ []) (hp : ∀ p ∈ l, checkB p = true) (hj : checkB (joinP l) = true) :
    resAt (joinP l) t b = firstJ t b (capsJ l 0).toNat l 0 := by
  have hl1 : 1 ≤ l.length := by cases l with | nil => exact absurd rfl hl | cons u l => simp
  have hal : (altsJ (startsJ l (l.length - 1)) 0).length = l.length - 1 := by rw [altsJ_len, startsJ_len]
  have hR : RestAt (joinP l) l 0 (l.length - 1) := by
    refine rest_at l 0 (l.length - 1) (joinP l) (fun k hk => alts_at l 0 (l.length - 1) (movsJ l (l.length - 1) 0) [] (joinP l) rfl (by unfold joinP; simp) k hk) fun j x hx => ?_
    show (altsJ (startsJ l (l.length - 1)) 0 ++ movsJ l (l.length - 1) 0)[l.length - 1 + j]? = some x
    rw [List.getElem?_append_right (by omega), hal, Nat.add_sub_cancel_left]
    exact hx
  obtain ⟨N', d⟩ := rest_done (C := (capsJ l 0).toNat) hb l 0 (l.length - 1) (fun _ _ => false) hl (fun p hpm => ⟨hp p hpm, by have := (capsJ_ge l 0).2 p hpm; omega⟩) (by omega) hR ⟨fun _ _ _ _ => rfl, fun _ _ _ _ => rfl⟩
  refine res_of hj hb (M' := N') ?_
  have e : (joinP l).start.toNat = entryJ l 0 (l.length - 1) := by
    unfold joinP
    simp only []
    cases l with
    | nil => exact absurd rfl hl
    | cons p l =>
      cases l with
      | nil => simp [startsJ, entryJ]; omega
      | cons p2 l => rw [if_neg (by simp), entryJ, if_neg (by simp)]; rfl
  rw [e]
  exact d
end Go.Proofs.Ytfgelkfnbohmmaa.Mach
namespace Go.Proofs.Ytfgelkfnbohmmaa.Mach
theorem start_lt {p : Prg} (hc : checkB p = true) : p.start.toNat < p.insts.length := by have := head_of hc; omega
theorem startsJ_lt : ∀ (l : List Prg) (o : Nat), (∀ p ∈ l, checkB p = true) → ∀ s ∈ startsJ l o, s < o + sumJ l
  | [], _, _, s, hs => by cases hs
  | p :: l, o, h, s, hs => by
    rw [sumJ]
    have h1 := start_lt (h p List.mem_cons_self)
    rcases List.mem_cons.1 hs with rfl | hs
    · omega
    · have := startsJ_lt l _ (fun q hq => h q (List.mem_cons_of_mem _ hq)) s hs; omega
theorem may_alt {x y n caps : Int} (h0 : 0 ≤ x) (h1 : x < n) (h2 : 0 ≤ y) (h3 : y < n) : mayB ⟨2, x, y, 0, []⟩ n caps = true := by
  unfold mayB
  simp [h0, h1, h2, h3]
theorem alts_may {n caps : Int} : ∀ (ss : List Nat) (i : Nat), (∀ s ∈ ss, (s : Int) < n) → ((i + ss.length : Nat) : Int) ≤ n → ∀ x ∈ altsJ ss i, mayB x n caps = true
  | [], _, _, _, x, hx => by cases hx
  | s :: l, i, h, hi, x, hx => by
    rw [altsJ] at hx
    rw [List.length_cons] at hi
    cases l with
    | nil => cases hx
    | cons u l =>
      rw [if_neg (by simp)] at hx
      rw [List.length_cons] at hi
      rcases List.mem_cons.1 hx with rfl | hx
      · have hs := h s List.mem_cons_self
        have hu := h u (List.mem_cons_of_mem _ List.mem_cons_self)
        refine may_alt (by omega) hs ?_ ?_
        · split <;> omega
        · split
          · exact hu
          · omega
      · exact alts_may (u :: l) (i + 1) (fun y hy => h y (List.mem_cons_of_mem _ hy)) (by rw [List.length_cons]; omega) x hx
theorem may_mv {x : Ins} {n n' caps caps' : Int} {o wh : Nat} (h : mayB x n caps = true) (hn : n + o ≤ n') (hcp : caps ≤ caps') (hw : wh < 100) : mayB (mvI o (wh : Int) x) n' caps' = true := by
  have e1 : (mvI o (wh : Int) x).op = x.op := rfl
  have e2 : (mvI o (wh : Int) x).rng = x.rng := rfl
  unfold mayB at h ⊢
  rw [e1, e2]
  by_cases h1 : x.op = 1
  · rw [if_pos h1] at h ⊢
    simp only [Bool.and_eq_true, decide_eq_true_eq] at h ⊢
    simp [mvI, h1]
    refine ⟨⟨by omega, by omega, h.1.2.2.1, h.1.2.2.2.1, h.1.2.2.2.2⟩, h.2⟩
  rw [if_neg h1] at h ⊢
  by_cases h2 : x.op = 2
  · rw [if_pos h2] at h ⊢
    simp only [decide_eq_true_eq] at h ⊢
    simp [mvI, h2]
    exact ⟨by omega, by omega, by omega, by omega, h.2.2.2.2.1, h.2.2.2.2.2⟩
  rw [if_neg h2] at h ⊢
  by_cases h3 : x.op = 3
  · rw [if_pos h3] at h ⊢
    simp only [decide_eq_true_eq] at h ⊢
    simp [mvI, h3]
    exact ⟨by omega, by omega, h.2.2.1, h.2.2.2.1, by omega, h.2.2.2.2.2⟩
  rw [if_neg h3] at h ⊢
  by_cases h4 : x.op = 4
  · rw [if_pos h4] at h ⊢
    simp only [Bool.and_eq_true, decide_eq_true_eq] at h ⊢
    simp [mvI, h4]
    refine ⟨⟨by omega, by omega, h.1.2.2.1, h.1.2.2.2⟩, h.2⟩
  rw [if_neg h4] at h ⊢
  by_cases h5 : x.op = 5
  · rw [if_pos h5] at h ⊢
    simp only [decide_eq_true_eq] at h ⊢
    simp [mvI, h5]
    exact ⟨h.1, h.2.1, by omega, h.2.2.2.2⟩
  rw [if_neg h5] at h ⊢
  by_cases h6 : x.op = 6
  · rw [if_pos h6] at h ⊢
    simp only [decide_eq_true_eq] at h ⊢
    simp [mvI, h6]
    exact h
  rw [if_neg h6] at h ⊢
  by_cases h7 : x.op = 7
  · rw [if_pos h7] at h ⊢
    simp only [decide_eq_true_eq] at h ⊢
    simp [mvI, h7]
    exact ⟨by omega, by omega, h.2.2.1, h.2.2.2.1, h.2.2.2.2⟩
  · rw [if_neg h7] at h; cases h
theorem movs_may {n caps : Int} : ∀ (l : List Prg) (o wh : Nat), (∀ p ∈ l, checkB p = true ∧ p.caps ≤ caps) → ((o + sumJ l : Nat) : Int) ≤ n → wh + l.length ≤ 100 → ∀ x ∈ movsJ l o wh, mayB x n caps = true
  | [], _, _, _, _, _, x, hx => by cases hx
  | p :: l, o, wh, h, hn, hw, x, hx => by
    rw [movsJ] at hx
    rw [sumJ] at hn
    rw [List.length_cons] at hw
    rcases List.mem_append.1 hx with hx | hx
    · obtain ⟨y, hy, rfl⟩ := List.mem_map.1 hx
      obtain ⟨hc, hcp⟩ := h p List.mem_cons_self
      obtain ⟨j, hj⟩ := List.mem_iff_getElem?.1 hy
      exact may_mv (may_of hc hj) (by omega) hcp (by omega)
    · exact movs_may l _ _ (fun q hq => h q (List.mem_cons_of_mem _ hq)) (by omega) (by omega) x hx
theorem join_len (l : List Prg) : (joinP l).insts.length = l.length - 1 + sumJ l := by
  unfold joinP
  simp only []
  rw [List.length_append, altsJ_len, startsJ_len, movsJ_len]
theorem join_chk {l : List Prg} (hl : l ≠ []) (hp : ∀ p ∈ l, checkB p = true) (h100 : l.length ≤ 100) (hs : l.length - 1 + sumJ l ≤ 20000) : checkB (joinP l) = true := by
  have hl1 : 1 ≤ l.length := by cases l with | nil => exact absurd rfl hl | cons u l => simp
  have hn := join_len l
  have hge := capsJ_ge l 0
  obtain ⟨p0, hp0⟩ : ∃ p, p ∈ l := by cases l with | nil => exact absurd rfl hl | cons u l => exact ⟨u, List.mem_cons_self⟩
  have hsum : ∀ (l : List Prg), (∀ p ∈ l, checkB p = true) → l.length ≤ sumJ l := by
    intro l
    induction l with
    | nil => intro _; simp
    | cons p l ih =>
      intro h
      have h1 := ih fun q hq => h q (List.mem_cons_of_mem _ hq)
      have h2 := (head_of (h p List.mem_cons_self)).1
      rw [sumJ, List.length_cons]; omega
  have hsl := hsum l hp
  have hcaps : 2 ≤ capsJ l 0 ∧ capsJ l 0 ≤ 1002 ∧ capsJ l 0 % 2 = 0 := by
    have g1 := hge.2 p0 hp0
    have g2 := (head_of (hp p0 hp0)).2.2.2.2
    rcases capsJ_one l 0 with h | ⟨q, hq, h⟩
    · omega
    · have g3 := (head_of (hp q hq)).2.2.2.2
      have g4 : q.caps % 2 = 0 := by
        have := hp q hq
        unfold checkB headB at this
        simp only [Bool.and_eq_true, decide_eq_true_eq] at this
        exact this.1.2.2.2.2.2.2
      omega
  unfold checkB
  rw [Bool.and_eq_true]
  refine ⟨?_, List.all_eq_true.2 fun x hx => ?_⟩
  · unfold headB
    rw [decide_eq_true_eq, hn]
    refine ⟨by omega, by omega, ?_, ?_, hcaps.1, hcaps.2.1, hcaps.2.2⟩
    · show 0 ≤ (if l.length = 1 then _ else (0 : Int))
      split <;> omega
    · show (if l.length = 1 then (((startsJ l 0).headD 0 : Nat) : Int) else 0) < _
      split
      · rename_i h1
        match l, h1, hp with
        | [p], _, hp =>
          have := start_lt (hp p List.mem_cons_self)
          simp only [startsJ, List.headD_cons, sumJ, List.length_singleton]
          omega
      · omega
  · rw [hn]
    show mayB x _ (capsJ l 0) = true
    rcases List.mem_append.1 (show x ∈ altsJ (startsJ l (l.length - 1)) 0 ++ movsJ l (l.length - 1) 0 from hx) with hx | hx
    · exact alts_may _ 0 (fun s hs => by have := startsJ_lt l _ hp s hs; omega) (by rw [startsJ_len]; omega) x hx
    · exact movs_may l _ 0 (fun p hpm => ⟨hp p hpm, hge.2 p hpm⟩) (by omega) (by omega) x hx
end Go.Proofs.Ytfgelkfnbohmmaa.Mach
