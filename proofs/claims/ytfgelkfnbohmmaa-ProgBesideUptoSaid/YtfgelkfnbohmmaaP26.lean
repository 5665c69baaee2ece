/- simplify: a joined row's form. -/
import Derived.StillTailTactics
import Derived.Test.YtfgelkfnbohmmaaP04
import Derived.Test.YtfgelkfnbohmmaaP10
namespace Go.Proofs.Ytfgelkfnbohmmaa
open Go.RowKit Go.Proofs.Ytfgelkfnbohmmaa.Tr
set_option maxRecDepth 100000 in
set_option maxHeartbeats 1000000 in
theorem jform_any (jb : Nat) (j : Jn) (w : World) (hj : Blk w jb 115 (jvals j)) (hJ : JB j) :
    Calls Try.prog 61 #[.pointer (some ⟨jb, 0, none⟩)] w fun e w' => e = .returned (fv (jform j)) ∧ Below w.heap.size w w' := by
  obtain ⟨a1, a2, a3, a4, a5, a6⟩ := hJ
  obtain ⟨js, jd, jn, ⟨ok, os, od, on⟩⟩ := j
  simp only [] at a1 a2 a3 a4 a5 a6
  simp only [jvals] at hj
  have hlt := hj.lt
  have c0 : w.cell? ⟨jb, 0, none⟩ = some (.int .i64 js) := hj.cell 0
  have c1 : w.cell? ⟨jb, 1, none⟩ = some (.int .i64 jd) := hj.cell 1
  have c2 : w.cell? ⟨jb, 2, none⟩ = some (.int .i64 jn) := hj.cell 2
  have c3 : w.cell? ⟨jb, 3, none⟩ = some (.int .i64 ok) := hj.cell 3
  have c4 : w.cell? ⟨jb, 4, none⟩ = some (.int .i64 os) := hj.cell 4
  have c5 : w.cell? ⟨jb, 5, none⟩ = some (.int .i64 od) := hj.cell 5
  have c6 : w.cell? ⟨jb, 6, none⟩ = some (.int .i64 on) := hj.cell 6
  have hR := Blk.new w 84 [.int .i64 0, .int .i64 0, .int .i64 0, .int .i64 0]
  have h0 : Below w.heap.size w (w.alloc (.cells #[.int .i64 0, .int .i64 0, .int .i64 0, .int .i64 0] 84)) := (Below.refl _ _).alloc (Nat.le_refl _) _
  have HR := Lib.hid hR
  have H0 := Lib.hid h0
  have HJ1 := Lib.hid (hj.alloc (.cells #[.int .i64 0, .int .i64 0, .int .i64 0, .int .i64 0] 84))
  obtain ⟨g, hg⟩ : ∃ g, g = boundF ⟨4, js + 1, jd + 1, jn⟩ := ⟨_, rfl⟩
  have hB2 := fun u => Lib.hid (bounded_any ⟨4, js + 1, jd + 1, jn⟩ u)
  rw [← hg] at hB2
  have HG := Lib.hid hg
  clear hj hR h0 hg
  simp only [fv, fvals] at hB2 ⊢
  by_cases hz : jn = 0
  · subst hz
    go_enter Try.func61, Try.ntmps61
    go_wp2_with fail
    refine bodyPost_ret (form_ret rfl _ _ w.heap.size _ _ _ _ rfl (Blk.new w _ [_, _, _, _])) rfl ?_
    exact ⟨rfl, (Below.refl _ _).alloc (Nat.le_refl _) _⟩
  · by_cases h1 : jn = 1
    · subst h1
      go_enter Try.func61, Try.ntmps61
      go_wp2_with fail
      refine bodyPost_ret (form_ret rfl _ _ w.heap.size _ _ _ _ rfl (Blk.new w _ [_, _, _, _])) rfl ?_
      exact ⟨rfl, (Below.refl _ _).alloc (Nat.le_refl _) _⟩
    · have HZ := Lib.hid hz
      have HZ1 := Lib.hid h1
      have h0b : (jn == 0) = false := by simpa using hz
      have h1b : (jn == 1) = false := by simpa using h1
      go_enter Try.func61, Try.ntmps61
      go_wp2_with fail
      clear c0 c1 c2 c3 c4 c5 c6
      generalize w.alloc (.cells #[.int .i64 0, .int .i64 0, .int .i64 0, .int .i64 0] 84) = w1 at *
      have c0 : w1.drew.cell? ⟨jb, 0, none⟩ = some (.int .i64 js) := HJ1.out.cell 0
      have c1 : w1.drew.cell? ⟨jb, 1, none⟩ = some (.int .i64 jd) := HJ1.out.cell 1
      have c2 : w1.drew.cell? ⟨jb, 2, none⟩ = some (.int .i64 jn) := HJ1.out.cell 2
      refine wp_region_still_tail 15 (by kernel_rfl) (by kernel_rfl) ?_
      simp only [List.take_succ_cons, List.take_zero, List.drop_succ_cons, List.drop_zero]
      change wpStill _ _ w1.drew _ _ _
      repeat still_step
      refine wpStill_nil ?_
      change wpList _ _ _ _ _ w1.drew
      go_wp2_with (go_at_call 62; refine (hB2 _).out.mono ?_; rintro e w2 ⟨rfl, hb2⟩; have hR2 := HR.out.drew.below hb2 HR.out.lt; have HR2 := Lib.hid hR2; have HB2 := Lib.hid ((bdrewN H0.out 1).trans (hb2.mono H0.out.size)); have q0 : w2.cell? ⟨w.heap.size, 0, none⟩ = some (.int .i64 0) := hR2.cell 0; have q1 : w2.cell? ⟨w.heap.size, 1, none⟩ = some (.int .i64 0) := hR2.cell 1; have q2 : w2.cell? ⟨w.heap.size, 2, none⟩ = some (.int .i64 0) := hR2.cell 2; have q3 : w2.cell? ⟨w.heap.size, 3, none⟩ = some (.int .i64 0) := hR2.cell 3; have s0 := hR2.frozen 0; have s1 := hR2.frozen 1; have s2 := hR2.frozen 2; have s3 := hR2.frozen 3; have s4 := hR2.lt; clear hb2 hR2; simp only [])
      refine bodyPost_ret (form_ret rfl _ _ w.heap.size (.int .i64 g.kind) (.int .i64 g.size) (.int .i64 g.deep) (.int .i64 g.subs) rfl ((((HR2.out.set_ 0 (.int .i64 g.kind)).set_ 1 (.int .i64 g.size)).set_ 2 (.int .i64 g.deep)).set_ 3 (.int .i64 g.subs))) rfl ?_
      have hjf : jform ⟨js, jd, jn, ⟨ok, os, od, on⟩⟩ = g := by unfold jform; rw [if_neg HZ.out, if_neg HZ1.out, HG.out]
      refine ⟨by rw [hjf], Below.kept HB2.out ((((Kept.setCell ⟨w.heap.size, 0, none⟩ _).trans (Kept.setCell ⟨w.heap.size, 1, none⟩ _)).trans (Kept.setCell ⟨w.heap.size, 2, none⟩ _)).trans (Kept.setCell ⟨w.heap.size, 3, none⟩ _)) ?_ HB2.out.size⟩
      intro b hb; simp at hb; omega
end Go.Proofs.Ytfgelkfnbohmmaa
namespace Go.Proofs.Ytfgelkfnbohmmaa.Tr
open Go.Proofs.Ytfgelkfnbohmmaa.Mach
mutual
/-- How many instructions a tree's code has. -/
def lenS : Tr → Nat
  | .mk k _ _ l n m _ _ _ =>
    if k = 2 ∨ k = 3 then 1
    else if k = 7 then lensS l + 2
    else if k = 5 then lensS l + 2 * (l.length - 1)
    else if k = 6 then lensS l + (if n = 1 then 1 else if m < 0 then 2 else 1)
    else lensS l
def lensS : List Tr → Nat
  | [] => 0
  | t :: l => lenS t + lensS l
end
/-- Which way first. -/
def altI (z : Bool) (x y : Nat) : Ins := if z then ⟨2, y, x, 0, []⟩ else ⟨2, x, y, 0, []⟩
mutual
/-- A tree's code, from a number on. -/
def codeS : Tr → Nat → List Ins
  | .mk k r a l n m z i _, b =>
    if k = 2 then (if r = [] then [⟨6, 0, 0, 0, []⟩] else [⟨1, (b + 1 : Nat), 0, 0, r⟩])
    else if k = 3 then [⟨4, (b + 1 : Nat), 0, a, []⟩]
    else if k = 7 then ⟨3, (b + 1 : Nat), 0, 2 * i, []⟩ :: (codesS l (b + 1) ++ [⟨3, (b + 1 + lensS l + 1 : Nat), 0, 2 * i + 1, []⟩])
    else if k = 5 then altS l b (b + (lensS l + 2 * (l.length - 1)))
    else if k = 6 then
      (if n = 1 then codesS l b ++ [altI z b (b + lensS l + 1)]
       else if m < 0 then altI z (b + 1) (b + 1 + lensS l + 1) :: (codesS l (b + 1) ++ [⟨7, (b : Nat), 0, 0, []⟩])
       else altI z (b + 1) (b + 1 + lensS l) :: codesS l (b + 1))
    else codesS l b
def codesS : List Tr → Nat → List Ins
  | [], _ => []
  | t :: l, b => codeS t b ++ codesS l (b + lenS t)
/-- Alternatives, up to the end e. -/
def altS : List Tr → Nat → Nat → List Ins
  | [], _, _ => []
  | t :: l, b, e => if l.isEmpty then codeS t b else ⟨2, (b + 1 : Nat), (b + 1 + lenS t + 1 : Nat), 0, []⟩ :: (codeS t (b + 1) ++ ⟨7, (e : Nat), 0, 0, []⟩ :: altS l (b + 1 + lenS t + 1) e)
end
/-- The program. -/
def progL (s : Tr) : List Ins := ⟨3, (1 : Nat), 0, 0, []⟩ :: (codeS s 1 ++ [⟨3, (lenS s + 2 : Nat), 0, 1, []⟩, ⟨5, 0, 0, 0, []⟩])
theorem codes_length (l : List Tr) (ih : ∀ s ∈ l, ∀ b, (codeS s b).length = lenS s) : ∀ b, (codesS l b).length = lensS l := by
  induction l with
  | nil => intro b; rfl
  | cons t l ihl =>
    intro b
    rw [codesS, lensS, List.length_append, ih t List.mem_cons_self, ihl fun s hs => ih s (List.mem_cons_of_mem _ hs)]
theorem alt_length (l : List Tr) (ih : ∀ s ∈ l, ∀ b, (codeS s b).length = lenS s) : ∀ b e, (altS l b e).length = lensS l + 2 * (l.length - 1) := by
  induction l with
  | nil => intro b e; rfl
  | cons t l ihl =>
    intro b e
    have h := ihl fun s hs => ih s (List.mem_cons_of_mem _ hs)
    rw [altS, lensS, List.length_cons]
    cases l with
    | nil => simp [ih t List.mem_cons_self, lensS]
    | cons u l =>
      rw [if_neg (by simp), List.length_cons, List.length_append, List.length_cons, ih t List.mem_cons_self, h]
      simp only [List.length_cons]
      omega
theorem code_length : ∀ (t : Tr) (b : Nat), (codeS t b).length = lenS t := by
  intro t
  induction t using Tr.ind with
  | h t ih =>
    intro b
    cases t with
    | mk k r a l n m z i s =>
      have h1 := codes_length l ih
      have h2 := alt_length l ih
      rw [codeS, lenS]
      by_cases k2 : k = 2
      · rw [if_pos k2, if_pos (show k = 2 ∨ k = 3 from .inl k2)]; split <;> rfl
      by_cases k3 : k = 3
      · rw [if_neg k2, if_pos k3, if_pos (show k = 2 ∨ k = 3 from .inr k3)]; rfl
      rw [if_neg k2, if_neg k3, if_neg (show ¬ (k = 2 ∨ k = 3) from fun h => h.elim k2 k3)]
      by_cases k7 : k = 7
      · rw [if_pos k7, if_pos k7, List.length_cons, List.length_append, h1]; simp
      rw [if_neg k7, if_neg k7]
      by_cases k5 : k = 5
      · rw [if_pos k5, if_pos k5, h2]
      rw [if_neg k5, if_neg k5]
      by_cases k6 : k = 6
      · rw [if_pos k6, if_pos k6]
        by_cases hn : n = 1
        · rw [if_pos hn, if_pos hn, List.length_append, h1]; simp
        rw [if_neg hn, if_neg hn]
        by_cases hm : m < 0
        · rw [if_pos hm, if_pos hm, List.length_cons, List.length_append, h1]; simp
        · rw [if_neg hm, if_neg hm, List.length_cons, h1]
      · rw [if_neg k6, if_neg k6]
        exact h1 b
theorem lens_le (l : List Tr) (ih : ∀ s ∈ l, lenS s + 2 ≤ 3 * size s) : lensS l + 2 * l.length ≤ 3 * sizes l := by
  induction l with
  | nil => simp [lensS, sizes]
  | cons t l ihl =>
    have h1 := ih t List.mem_cons_self
    have h2 := ihl fun s hs => ih s (List.mem_cons_of_mem _ hs)
    rw [lensS, sizes, List.length_cons]
    omega
theorem len_le : ∀ t : Tr, allB t = true → lenS t + 2 ≤ 3 * size t := by
  intro t
  induction t using Tr.ind with
  | h t ih =>
    intro h
    cases kinds h with
    | empty => decide
    | cls r hr => rw [lenS, if_pos (show (2 : Int) = 2 ∨ (2 : Int) = 3 from .inl rfl), size, sizes]; omega
    | ass a ha => rw [lenS, if_pos (show (3 : Int) = 2 ∨ (3 : Int) = 3 from .inr rfl), size, sizes]; omega
    | cat l h2 hs =>
      have h1 := lens_le l fun s hs' => ih s hs' (hs s hs')
      rw [catT, lenS, size, if_neg (by decide), if_neg (by decide), if_neg (by decide), if_neg (by decide)]
      omega
    | alt l h2 hs =>
      have h1 := lens_le l fun s hs' => ih s hs' (hs s hs')
      rw [altT, lenS, size, if_neg (by decide), if_neg (by decide), if_pos rfl]
      omega
    | rep x n m z hx h0 h1 hm =>
      have h1 := lens_le [x] fun s hs' => ih s hs' (by rw [List.mem_singleton] at hs'; rw [hs']; exact hx)
      rw [List.length_singleton] at h1
      rw [repT, lenS, size, if_neg (by decide), if_neg (by decide), if_neg (by decide), if_pos rfl]
      split
      · omega
      · split <;> omega
    | group x i s hx h0 h1 hm =>
      have h1 := lens_le [x] fun s hs' => ih s hs' (by rw [List.mem_singleton] at hs'; rw [hs']; exact hx)
      rw [List.length_singleton] at h1
      rw [groupT, lenS, size, if_neg (by decide), if_pos rfl]
      omega
mutual
def greatest : Tr → Int
  | .mk _ _ _ l _ _ _ i _ => greatests l i
def greatests : List Tr → Int → Int
  | [], g => g
  | t :: l, g => greatests l (max g (greatest t))
end
theorem greatests_ge : ∀ (l : List Tr) (g : Int), g ≤ greatests l g ∧ ∀ t ∈ l, greatest t ≤ greatests l g
  | [], g => ⟨Int.le_refl _, by simp⟩
  | t :: l, g => by
    obtain ⟨h1, h2⟩ := greatests_ge l (max g (greatest t))
    rw [greatests]
    refine ⟨by omega, fun u hu => ?_⟩
    rcases List.mem_cons.1 hu with rfl | hu
    · omega
    · exact h2 u hu
theorem greatests_le : ∀ (l : List Tr) (g c : Int), g ≤ c → (∀ t ∈ l, greatest t ≤ c) → greatests l g ≤ c
  | [], g, c, h, _ => h
  | t :: l, g, c, h, hl => by
    rw [greatests]
    exact greatests_le l _ c (by have := hl t List.mem_cons_self; omega) fun u hu => hl u (List.mem_cons_of_mem _ hu)
theorem occs_mem {l : List Tr} {u : Lab} (h : u ∈ occs l) : ∃ t ∈ l, u ∈ occ t := by
  induction l with
  | nil => cases h
  | cons t l ih =>
    rw [occs] at h
    rcases List.mem_append.1 h with h | h
    · exact ⟨t, List.mem_cons_self, h⟩
    · obtain ⟨x, hx, h⟩ := ih h
      exact ⟨x, List.mem_cons_of_mem _ hx, h⟩
theorem sound_great : ∀ t : Tr, allB t = true → 0 ≤ greatest t ∧ greatest t ≤ 500 ∧ ∀ u ∈ occ t, 1 ≤ u.1 := by
  intro t
  induction t using Tr.ind with
  | h t ih =>
    intro h
    have hl : ∀ (l : List Tr) (g : Int), 0 ≤ g → g ≤ 500 → (∀ s ∈ l, allB s = true) → (∀ s ∈ l, allB s = true → 0 ≤ greatest s ∧ greatest s ≤ 500 ∧ ∀ u ∈ occ s, 1 ≤ u.1) → 0 ≤ greatests l g ∧ greatests l g ≤ 500 ∧ ∀ u ∈ occs l, 1 ≤ u.1 := by
      intro l g h0 h1 hs ih
      refine ⟨Int.le_trans h0 (greatests_ge l g).1, greatests_le l g 500 h1 fun t ht => (ih t ht (hs t ht)).2.1, fun u hu => ?_⟩
      obtain ⟨x, hx, hu⟩ := occs_mem hu
      exact (ih x hx (hs x hx)).2.2 u hu
    cases kinds h with
    | empty => exact ⟨by decide, by decide, by intro u hu; cases hu⟩
    | cls r hr => exact ⟨Int.le_refl 0, show (0 : Int) ≤ 500 by decide, by intro u hu; cases hu⟩
    | ass a ha => exact ⟨Int.le_refl 0, show (0 : Int) ≤ 500 by decide, by intro u hu; cases hu⟩
    | cat l h2 hs => rw [occ_cat]; exact hl l 0 (by decide) (by decide) hs ih
    | alt l h2 hs => rw [occ_alt]; exact hl l 0 (by decide) (by decide) hs ih
    | rep x n m z hx h0 h1 hm =>
      have := hl [x] 0 (by decide) (by decide) (by intro s hs; rw [List.mem_singleton] at hs; rw [hs]; exact hx) ih
      refine ⟨this.1, this.2.1, fun u hu => ?_⟩
      rw [repT, occ] at hu
      split at hu
      · cases hu
      · rw [if_neg (by decide), List.nil_append] at hu
        exact this.2.2 u hu
    | group x i s hx h0 h1 hm =>
      have := hl [x] i (by omega) h1 (by intro s hs; rw [List.mem_singleton] at hs; rw [hs]; exact hx) ih
      refine ⟨this.1, this.2.1, fun u hu => ?_⟩
      rw [groupT, occ, if_neg (by rintro ⟨h, _⟩; cases h), if_pos rfl] at hu
      rcases List.mem_append.1 hu with hu | hu
      · rw [List.mem_singleton] at hu
        rw [hu]; exact h0
      · exact this.2.2 u hu
end Go.Proofs.Ytfgelkfnbohmmaa.Tr
