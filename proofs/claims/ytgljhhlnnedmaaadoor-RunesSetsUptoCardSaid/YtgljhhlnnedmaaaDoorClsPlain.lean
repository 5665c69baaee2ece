/- Classes: what a list of ranges holds, and that a class is known by what it holds. No program here. -/
import Derived.Test.YtgljhhlnnedmaaaDoorClass
import Derived.Test.YtgljhhlnnedmaaaDoorHas
namespace Go.Proofs.YtgljhhlnnedmaaaDoor

theorem memB_iff {l : List (Int × Int)} {r : Int} : memB l r = true ↔ ∃ x ∈ l, x.1 ≤ r ∧ r ≤ x.2 := by simp [memB]
/-- A class: every range may stand in one, each begins two behind the one ahead of it, at least. -/
def Cls (l : List (Int × Int)) : Prop := (∀ x ∈ l, okx x = true) ∧ l.Pairwise fun x y => x.2 + 1 < y.1
theorem okx_iff {x : Int × Int} : okx x = true ↔ 0 ≤ x.1 ∧ x.1 ≤ x.2 ∧ x.2 ≤ 1114111 ∧ (x.2 < 55296 ∨ 57343 < x.1) := by
  simp only [okx, dom, Bool.and_eq_true, decide_eq_true_eq, Bool.not_eq_true', Bool.and_eq_false_iff, decide_eq_false_iff_not]
  omega
theorem dom_iff {r : Int} : dom r = true ↔ 0 ≤ r ∧ r ≤ 1114111 ∧ (r < 55296 ∨ 57343 < r) := by simp [dom]
theorem Cls.nil : Cls [] := ⟨by simp, .nil⟩
theorem Cls.tail {x : Int × Int} {l : List (Int × Int)} (h : Cls (x :: l)) : Cls l := ⟨fun y hy => h.1 y (by simp [hy]), (List.pairwise_cons.1 h.2).2⟩
theorem Cls.dom_ {l : List (Int × Int)} (h : Cls l) {r : Int} (hr : memB l r = true) : dom r = true := by
  obtain ⟨x, hx, h1, h2⟩ := memB_iff.1 hr
  have := okx_iff.1 (h.1 x hx)
  rw [dom_iff]; omega
theorem mem_cons {x : Int × Int} {l : List (Int × Int)} {r : Int} : memB (x :: l) r = true ↔ (x.1 ≤ r ∧ r ≤ x.2) ∨ memB l r = true := by simp [memB]
theorem mem_append {l m : List (Int × Int)} {r : Int} : memB (l ++ m) r = true ↔ memB l r = true ∨ memB m r = true := by simp [memB]
theorem mem_one {x : Int × Int} {r : Int} : memB [x] r = true ↔ x.1 ≤ r ∧ r ≤ x.2 := by simp [memB]
theorem mem_nil {r : Int} : ¬ memB [] r = true := by simp [memB]
theorem Cls.above {x : Int × Int} {l : List (Int × Int)} (h : Cls (x :: l)) {r : Int} (hr : memB l r = true) : x.2 + 1 < r := by
  obtain ⟨y, hy, h1, _⟩ := memB_iff.1 hr
  have := (List.pairwise_cons.1 h.2).1 y hy
  omega
/-- A class is known by what it holds. -/
theorem Cls.uniq : ∀ {a b : List (Int × Int)}, Cls a → Cls b → (∀ r, memB a r = true ↔ memB b r = true) → a = b
  | [], [], _, _, _ => rfl
  | [], y :: b, _, hb, h => by
    have := okx_iff.1 (hb.1 y (by simp))
    exact absurd ((h y.1).2 (mem_cons.2 (.inl ⟨Int.le_refl _, this.2.1⟩))) mem_nil
  | x :: a, [], ha, _, h => by
    have := okx_iff.1 (ha.1 x (by simp))
    exact absurd ((h x.1).1 (mem_cons.2 (.inl ⟨Int.le_refl _, this.2.1⟩))) mem_nil
  | (x1, x2) :: a, (y1, y2) :: b, ha, hb, h => by
    have hx := okx_iff.1 (ha.1 (x1, x2) (by simp))
    have hy := okx_iff.1 (hb.1 (y1, y2) (by simp))
    simp only [] at hx hy
    have la : ∀ r, memB ((x1, x2) :: a) r = true → x1 ≤ r := fun r hr => by
      rcases mem_cons.1 hr with h | h
      · exact h.1
      · have := ha.above h; simp only [] at this; omega
    have lb : ∀ r, memB ((y1, y2) :: b) r = true → y1 ≤ r := fun r hr => by
      rcases mem_cons.1 hr with h | h
      · exact h.1
      · have := hb.above h; simp only [] at this; omega
    have e1 : x1 = y1 := by
      have g1 := lb x1 ((h x1).1 (mem_cons.2 (.inl ⟨Int.le_refl _, hx.2.1⟩)))
      have g2 := la y1 ((h y1).2 (mem_cons.2 (.inl ⟨Int.le_refl _, hy.2.1⟩)))
      omega
    subst e1
    have e2 : x2 = y2 := by
      rcases Int.lt_trichotomy x2 y2 with g | g | g
      · have := (h (x2 + 1)).2 (mem_cons.2 (.inl ⟨by simp only []; omega, by simp only []; omega⟩))
        rcases mem_cons.1 this with g' | g'
        · simp only [] at g'; omega
        · have := ha.above g'; simp only [] at this; omega
      · exact g
      · have := (h (y2 + 1)).1 (mem_cons.2 (.inl ⟨by simp only []; omega, by simp only []; omega⟩))
        rcases mem_cons.1 this with g' | g'
        · simp only [] at g'; omega
        · have := hb.above g'; simp only [] at this; omega
    subst e2
    have e3 : a = b := Cls.uniq ha.tail hb.tail fun r => by
      constructor
      · intro hr
        have hab := ha.above hr
        rcases mem_cons.1 ((h r).1 (mem_cons.2 (.inr hr))) with g | g
        · simp only [] at g hab; omega
        · exact g
      · intro hr
        have hab := hb.above hr
        rcases mem_cons.1 ((h r).2 (mem_cons.2 (.inr hr))) with g | g
        · simp only [] at g hab; omega
        · exact g
    rw [e3]

/-- What Right asks, and a class. -/
theorem cls_of {l : List (Int × Int)} (h : clsB l = true) : Cls l := by
  unfold clsB at h
  rw [List.all_eq_true] at h
  have hat : ∀ j x, l[j]? = some x → okx x = true ∧ ∀ y, l[j + 1]? = some y → x.2 + 1 < y.1 := fun j x hx => by
    have hj := (List.getElem?_eq_some_iff.1 hx).1
    have h1 := h j (by simpa using hj)
    unfold okAt at h1
    rw [hx] at h1
    simp only [Bool.and_eq_true] at h1
    refine ⟨h1.1, fun y hy => ?_⟩
    have hj2 := (List.getElem?_eq_some_iff.1 hy).1
    have h2 := h (j + 1) (by simpa using hj2)
    unfold okAt at h2
    rw [hy] at h2
    simp only [Bool.and_eq_true, Nat.add_sub_cancel, hx] at h2
    simpa using h2.2
  have hok : ∀ x ∈ l, okx x = true := fun x hx => by
    obtain ⟨j, hj⟩ := List.getElem?_of_mem hx
    exact (hat j x hj).1
  refine ⟨hok, ?_⟩
  rw [List.pairwise_iff_getElem]
  intro i j hi hj hij
  induction j with
  | zero => omega
  | succ j ih =>
    have hx := List.getElem?_eq_getElem (show j < l.length by omega)
    have hs := (hat j _ hx).2 _ (List.getElem?_eq_getElem hj)
    rcases Nat.lt_or_ge i j with g | g
    · have g1 := ih (by omega) g
      have g2 := okx_iff.1 (hok l[j] (List.getElem_mem (show j < l.length by omega)))
      omega
    · obtain rfl : i = j := by omega
      exact hs
theorem of_cls {l : List (Int × Int)} (h : Cls l) : clsB l = true := by
  unfold clsB
  rw [List.all_eq_true]
  intro j hj
  have hj : j < l.length := by simpa using hj
  unfold okAt
  rw [List.getElem?_eq_getElem hj]
  simp only [Bool.and_eq_true, h.1 _ (List.getElem_mem hj), true_and]
  rcases Nat.eq_zero_or_pos j with g | g
  · subst g; rfl
  · rw [List.getElem?_eq_getElem (show j - 1 < l.length by omega)]
    have := List.pairwise_iff_getElem.1 h.2 (j - 1) j (by omega) hj (by omega)
    simp [this]
theorem right_of {l : List (Int × Int)} (h : Cls l) (hl : l.length ≤ 5000) : rightB l = true := by
  unfold rightB; rw [of_cls h, decide_eq_true hl]; rfl
theorem of_right {l : List (Int × Int)} (h : rightB l = true) : Cls l ∧ l.length ≤ 5000 := by
  unfold rightB at h
  simp only [Bool.and_eq_true, decide_eq_true_eq] at h
  exact ⟨cls_of h.2, h.1⟩

/-- The parts of ranges hold what of them is of the domain. -/
theorem split_mem {l : List (Int × Int)} (hl : ∀ x ∈ l, inR x) (r : Int) : memB (splitR l) r = true ↔ dom r = true ∧ memB l r = true := by
  rw [memB_iff, memB_iff, dom_iff]
  unfold splitR
  constructor
  · rintro ⟨y, hy, h1, h2⟩
    obtain ⟨x, hx, hy⟩ := List.mem_flatMap.1 hy
    have hi := hl x hx
    unfold inR at hi
    rcases List.mem_append.1 hy with hy | hy
    · unfold part1 at hy
      split at hy
      · simp only [List.mem_singleton] at hy; subst hy; simp only [] at h1 h2
        exact ⟨by omega, x, hx, by omega⟩
      · simp at hy
    · unfold part2 at hy
      split at hy
      · simp only [List.mem_singleton] at hy; subst hy; simp only [] at h1 h2
        exact ⟨by omega, x, hx, by omega⟩
      · simp at hy
  · rintro ⟨hd, x, hx, h1, h2⟩
    by_cases hlow : r < 55296
    · refine ⟨(x.1, min x.2 55295), List.mem_flatMap.2 ⟨x, hx, List.mem_append.2 (.inl ?_)⟩, by simp only []; omega, by simp only []; omega⟩
      unfold part1
      rw [if_pos (by omega)]; simp
    · refine ⟨(max x.1 57344, x.2), List.mem_flatMap.2 ⟨x, hx, List.mem_append.2 (.inr ?_)⟩, by simp only []; omega, by simp only []; omega⟩
      unfold part2
      rw [if_pos (by omega)]; simp
theorem split_ok {l : List (Int × Int)} (hl : ∀ x ∈ l, inR x) : ∀ y ∈ splitR l, okx y = true := by
  intro y hy
  unfold splitR at hy
  obtain ⟨x, hx, hy⟩ := List.mem_flatMap.1 hy
  have hi := hl x hx
  unfold inR at hi
  rw [okx_iff]
  rcases List.mem_append.1 hy with hy | hy
  · unfold part1 at hy
    split at hy
    · simp only [List.mem_singleton] at hy; subst hy; simp only []; omega
    · simp at hy
  · unfold part2 at hy
    split at hy
    · simp only [List.mem_singleton] at hy; subst hy; simp only []; omega
    · simp at hy
theorem inR_of {x : Int × Int} (h : okx x = true) : inR x := by
  have := okx_iff.1 h
  unfold inR; omega
theorem split_len : ∀ {l : List (Int × Int)}, (∀ x ∈ l, okx x = true) → (splitR l).length = l.length
  | [], _ => rfl
  | x :: l, h => by
    have hx := okx_iff.1 (h x (by simp))
    have ih := split_len (l := l) fun y hy => h y (by simp [hy])
    have e : splitR (x :: l) = part1 x ++ part2 x ++ splitR l := by simp [splitR]
    rw [e, List.length_append, List.length_append, ih]
    have : (part1 x).length + (part2 x).length = 1 := by
      unfold part1 part2
      by_cases g : x.2 < 55296
      · rw [if_pos (by omega), if_neg (by omega)]; rfl
      · rw [if_neg (by omega), if_pos (by omega)]; rfl
    simp only [List.length_cons]; omega

/-- What the fold over sorted ranges keeps. -/
def Inv (out rest : List (Int × Int)) : Prop := Cls out ∧ (∀ x ∈ rest, okx x = true) ∧ rest.Pairwise (fun x y => x.1 ≤ y.1) ∧ ∀ y ∈ out, ∀ x ∈ rest, y.1 ≤ x.1
theorem Inv.step {out rest : List (Int × Int)} {x : Int × Int} (h : Inv out (x :: rest)) : Inv (mstep out x) rest ∧ ∀ r, memB (mstep out x) r = true ↔ memB out r = true ∨ (x.1 ≤ r ∧ r ≤ x.2) := by
  obtain ⟨hc, hok, hs, hle⟩ := h
  have hx := okx_iff.1 (hok x (by simp))
  have hsr := (List.pairwise_cons.1 hs).1
  rcases List.eq_nil_or_concat out with rfl | ⟨o, y, rfl⟩
  · rw [mstep_nil]
    refine ⟨⟨⟨fun z hz => by simp at hz; subst hz; exact hok _ (by simp), by simp⟩, fun z hz => hok z (by simp [hz]), (List.pairwise_cons.1 hs).2, fun z hz w hw => by simp at hz; subst hz; exact hsr w hw⟩, fun r => ?_⟩
    rw [mem_cons]
    simp [mem_nil]
  · simp only [List.concat_eq_append] at *
    have hy := okx_iff.1 (hc.1 y (by simp))
    have hyx := hle y (by simp) x (by simp)
    have hco : Cls o := ⟨fun z hz => hc.1 z (by simp [hz]), (List.pairwise_append.1 hc.2).1⟩
    have hcy : ∀ z ∈ o, z.2 + 1 < y.1 := fun z hz => (List.pairwise_append.1 hc.2).2.2 z hz y (by simp)
    by_cases g : x.1 ≤ y.2 + 1
    · rw [mstep_join g]
      refine ⟨⟨⟨fun z hz => ?_, ?_⟩, fun z hz => hok z (by simp [hz]), (List.pairwise_cons.1 hs).2, fun z hz w hw => ?_⟩, fun r => ?_⟩
      · rcases List.mem_append.1 hz with hz | hz
        · exact hco.1 z hz
        · simp only [List.mem_singleton] at hz; subst hz
          rw [okx_iff]; simp only []; omega
      · rw [List.pairwise_append]
        exact ⟨hco.2, by simp, fun z hz w hw => by simp only [List.mem_singleton] at hw; subst hw; exact hcy z hz⟩
      · rcases List.mem_append.1 hz with hz | hz
        · exact hle z (by simp [hz]) w (by simp [hw])
        · simp only [List.mem_singleton] at hz; subst hz
          exact hle y (by simp) w (by simp [hw])
      · rw [mem_append, mem_append, mem_one, mem_one]
        constructor
        · rintro (g1 | g1)
          · exact .inl (.inl g1)
          · simp only [] at g1
            by_cases g2 : y.2 < r
            · exact .inr (by omega)
            · exact .inl (.inr (by omega))
        · rintro ((g1 | g1) | g1)
          · exact .inl g1
          · exact .inr (by simp only []; omega)
          · exact .inr (by simp only []; omega)
    · rw [mstep_apart g]
      refine ⟨⟨⟨fun z hz => ?_, ?_⟩, fun z hz => hok z (by simp [hz]), (List.pairwise_cons.1 hs).2, fun z hz w hw => ?_⟩, fun r => ?_⟩
      · rcases List.mem_append.1 hz with hz | hz
        · exact hc.1 z hz
        · simp only [List.mem_singleton] at hz; subst hz
          exact hok _ (by simp)
      · rw [List.pairwise_append]
        refine ⟨hc.2, by simp, fun z hz w hw => ?_⟩
        simp only [List.mem_singleton] at hw; subst hw
        rcases List.mem_append.1 hz with hz | hz
        · have := hcy z hz; omega
        · simp only [List.mem_singleton] at hz; subst hz; omega
      · rcases List.mem_append.1 hz with hz | hz
        · exact hle z hz w (by simp [hw])
        · simp only [List.mem_singleton] at hz; subst hz
          exact hsr w hw
      · rw [mem_append (m := [x]), mem_one]
theorem Inv.all : ∀ {rest out : List (Int × Int)}, Inv out rest → Cls (rest.foldl mstep out) ∧ ∀ r, memB (rest.foldl mstep out) r = true ↔ memB out r = true ∨ memB rest r = true
  | [], out, h => ⟨h.1, fun r => by simp [mem_nil]⟩
  | x :: rest, out, h => by
    obtain ⟨h1, h2⟩ := h.step
    obtain ⟨h3, h4⟩ := Inv.all h1
    refine ⟨h3, fun r => ?_⟩
    rw [List.foldl_cons, h4 r, h2 r, mem_cons, or_assoc]
theorem mem_perm {a b : List (Int × Int)} (h : a.Perm b) (r : Int) : memB a r = true ↔ memB b r = true := by
  rw [memB_iff, memB_iff]
  constructor
  · rintro ⟨x, hx, g⟩; exact ⟨x, h.mem_iff.1 hx, g⟩
  · rintro ⟨x, hx, g⟩; exact ⟨x, h.mem_iff.2 hx, g⟩
/-- What class makes: a class of what the ranges hold of the domain. -/
theorem merge_cls {l S : List (Int × Int)} (hl : ∀ x ∈ l, inR x) (hp : S.Perm (splitR l)) (hs : S.Pairwise fun x y => x.1 ≤ y.1) :
    Cls (mergeR S) ∧ (∀ r, memB (mergeR S) r = true ↔ dom r = true ∧ memB l r = true) ∧ (mergeR S).length ≤ (splitR l).length := by
  have hi : Inv [] S := ⟨Cls.nil, fun x hx => split_ok hl x (hp.mem_iff.1 hx), hs, by simp⟩
  obtain ⟨h1, h2⟩ := hi.all
  refine ⟨h1, fun r => ?_, ?_⟩
  · show memB (S.foldl mstep []) r = true ↔ _
    rw [h2 r, mem_perm hp r, split_mem hl r]
    simp [mem_nil]
  · have := mergeR_len S []
    rw [hp.length_eq] at this
    simpa [mergeR] using this
/-- How many ranges of a class meet a stretch. -/
theorem meet_len : ∀ {l : List (Int × Int)} {lo hi : Int}, Cls l → (∀ x ∈ l, x.1 ≤ hi ∧ lo ≤ x.2) → l.length ≤ (hi + 1 - lo).toNat + 1
  | [], _, _, _, _ => by simp
  | x :: l, lo, hi, hc, hm => by
    have h1 := hm x (by simp)
    have hab : ∀ y ∈ l, x.2 + 1 < y.1 := (List.pairwise_cons.1 hc.2).1
    have ih := meet_len (l := l) (lo := lo + 1) (hi := hi) hc.tail fun y hy => by
      have g1 := hab y hy
      have g2 := okx_iff.1 (hc.1 y (by simp [hy]))
      exact ⟨(hm y (by simp [hy])).1, by omega⟩
    simp only [List.length_cons]
    match l, hab, hm with
    | [], _, _ => simp
    | y :: l', hab, hm =>
      have g1 := hab y (by simp)
      have g2 := (hm y (by simp)).1
      simp only [List.length_cons] at ih ⊢
      omega
end Go.Proofs.YtgljhhlnnedmaaaDoor
