/- runes.Has, with slices.ContainsFunc and IndexFunc at ranges. -/
import Derived.Test.YteimpcjafgllpaaQ02
namespace Go.Proofs.Yteimpcjafgllpaa
open Go.RowKit
set_option maxHeartbeats 1000000 in
theorem hasC_any (x1 x2 r : Int) (bx : Nat) (w : World) (hc : w.cell? ⟨bx, 0, none⟩ = some (.int .i64 r)) :
    Calls Try.prog 69 #[.agg #[.int .i64 x1, .int .i64 x2], .pointer (some ⟨bx, 0, none⟩)] w fun e w' => e = .returned (.bool (decide (x1 ≤ r ∧ r ≤ x2))) ∧ Below w.heap.size w w' := by
  have hlt := World.block_lt_of_cell? w _ hc
  have hbe : Below w.heap.size w (w.alloc (.cells #[.int .i64 x1, .int .i64 x2] 63)) := (Below.refl _ _).alloc (Nat.le_refl _) _
  by_cases h1 : x1 ≤ r <;> by_cases h2 : r ≤ x2
  all_goals
    go_enter Try.func69, Try.ntmps69
    go_wp2_with fail
    go_ret
    exact ⟨ret_bool (by simp [h1, h2]), hbe⟩
set_option maxRecDepth 100000 in
set_option maxHeartbeats 2000000 in
theorem index_any (A : Option Addr) (n c bx : Nat) (r : Int) (l : List (Int × Int)) (w : World) (hr : Reads w w.heap.size 2 A n c (flat l)) (hbx : w.cell? ⟨bx, 0, none⟩ = some (.int .i64 r)) :
    Calls Try.prog 80 #[.slice A n c, .func (.func 69) #[] #[.pointer (some ⟨bx, 0, none⟩)]] w fun e w' => (∃ k : Int, e = .returned (.int .i64 k) ∧ decide (0 ≤ k) = memB l r) ∧ Below w.heap.size w w' := by
  obtain ⟨B, hB⟩ : ∃ B, B = w.heap.size := ⟨_, rfl⟩
  have hbl := World.block_lt_of_cell? w _ hbx
  simp only [] at hbl
  rw [← hB] at hr hbl
  rw [← hB]
  have hBs : B ≤ w.heap.size := by omega
  have hlen : l.length = n := by have := hr.len; rw [flat_length] at this; omega
  have HLEN := Lib.hid hlen
  have hnc := hr.le
  have hcap := hr.cap
  have HR := Lib.hid hr
  have HBX := Lib.hid hbx
  clear hB hlen hr hbx
  go_enter Try.func80, Try.ntmps80
  go_wp2_with fail
  go_loopw [8] (fun p wr => ∃ i : Nat, i ≤ n ∧ p = .int .i64 i ∧ (∀ x ∈ l.take i, decide (x.1 ≤ r ∧ r ≤ x.2) = false) ∧ Below B w wr) (fun p _ => n - (intOf p).toNat)
  case atStart => exact ⟨0, Nat.zero_le _, rfl, by simp, Below.refl _ _⟩
  case round =>
    obtain ⟨i, hi1, rfl, hno, hbel⟩ := hrel
    have hszr : B ≤ wr.heap.size := by have := hbel.size; omega
    have HNO := Lib.hid hno
    clear hno
    by_cases hlt : i < n
    · obtain ⟨x, hx⟩ : ∃ x, l[i]? = some x := ⟨_, List.getElem?_eq_getElem (by have := HLEN.out; omega)⟩
      obtain ⟨b, off, rfl, hb, hcell⟩ := (HR.out.below hbel).at_ (by omega)
      have hc1 : wr.cell? ⟨b, off + i * 2, none⟩ = some (.int .i64 x.1) := hcell _ _ (flat_get l i x hx).1
      have hc2 : wr.cell? ⟨b, off + i * 2 + 1, none⟩ = some (.int .i64 x.2) := by rw [Nat.add_assoc]; exact hcell _ _ (flat_get l i x hx).2
      have hcb : wr.cell? ⟨bx, 0, none⟩ = some (.int .i64 r) := (hbel.cell (p := ⟨bx, 0, none⟩) hbl).trans HBX.out
      have HX := Lib.hid hx
      have HC := Lib.hid (hasC_any x.1 x.2 r bx wr hcb)
      obtain ⟨x1, x2⟩ := x
      clear hcell hx hcb
      cases hd : decide (x1 ≤ r ∧ r ≤ x2) with
      | true =>
        have HM := Lib.hid (show memB l r = true from List.any_eq_true.2 ⟨(x1, x2), List.mem_of_getElem? HX.out, hd⟩)
        go_wp2_with (go_at_call 69; refine HC.out.mono ?_; rintro e w1 ⟨rfl, hb1⟩; simp only [hd])
        go_ret
        exact ⟨⟨_, rfl, by rw [HM.out]; simp⟩, hbel.trans (hb1.mono hszr)⟩
      | false =>
        go_wp2_with (go_at_call 69; refine HC.out.mono ?_; rintro e w1 ⟨rfl, hb1⟩; simp only [hd])
        go_roundw
        case rel => exact ⟨i + 1, by omega, by go_num, fun y hy => by
          rw [List.take_add_one, HX.out] at hy
          simp only [Option.toList_some, List.mem_append, List.mem_singleton] at hy
          rcases hy with hy | rfl
          · exact HNO.out y hy
          · exact hd, hbel.trans (hb1.mono hszr)⟩
        case measure => simp [intOf]; omega
    · obtain rfl : i = n := by omega
      have HM := Lib.hid (show memB l r = false from by
        have := HNO.out
        rw [List.take_of_length_le (by have := HLEN.out; omega)] at this
        unfold memB
        rw [List.any_eq_false]
        intro x hx
        rw [this x hx]; simp)
      go_wp2_with fail
      go_ret
      exact ⟨⟨_, rfl, by rw [HM.out]; rfl⟩, hbel⟩
set_option maxHeartbeats 1000000 in
theorem contains_any (A : Option Addr) (n c bx : Nat) (r : Int) (l : List (Int × Int)) (w : World) (hr : Reads w w.heap.size 2 A n c (flat l)) (hbx : w.cell? ⟨bx, 0, none⟩ = some (.int .i64 r)) :
    Calls Try.prog 68 #[.slice A n c, .func (.func 69) #[] #[.pointer (some ⟨bx, 0, none⟩)]] w fun e w' => e = .returned (.bool (memB l r)) ∧ Below w.heap.size w w' := by
  have HI := Lib.hid (index_any A n c bx r l w hr hbx)
  clear hr hbx
  go_enter Try.func68, Try.ntmps68
  go_wp2_with fail
  refine HI.out.mono ?_
  rintro e w1 ⟨⟨k, rfl, hk⟩, hb⟩
  have HK := Lib.hid hk
  clear hk HI
  go_wp2_with fail
  go_ret
  exact ⟨ret_bool HK.out, hb⟩
set_option maxHeartbeats 1000000 in
theorem has_any (A : Option Addr) (n c : Nat) (r : Int) (l : List (Int × Int)) (w : World) (hr : Reads w w.heap.size 2 A n c (flat l)) :
    Calls Try.prog 47 #[.slice A n c, .int .i64 r] w fun e w' => e = .returned (.bool (rightB l && memB l r)) ∧ Below w.heap.size w w' := by
  have hb0 : Below w.heap.size w (w.alloc (.cells #[.int .i64 r] 3)) := (Below.refl _ _).alloc (Nat.le_refl _) _
  have hr1 : Reads (w.alloc (.cells #[.int .i64 r] 3)) (w.alloc (.cells #[.int .i64 r] 3)).heap.size 2 A n c (flat l) := (hr.alloc (Nat.le_refl _) _).more (by simp)
  have hc : (w.alloc (.cells #[.int .i64 r] 3)).cell? ⟨w.heap.size, 0, none⟩ = some (.int .i64 r) := (Blk.new w _ [.int .i64 r]).cell 0
  have HR := Lib.hid hr1
  have HC := Lib.hid hc
  have HRI := Lib.hid (right_any A n c l _ hr1)
  have hmf : ∀ (fn : Fn) (first cap : Array Value) (w : World), (Instr.makeFunc fn first cap).run Try.prog w = .ok (.func fn first cap) w := fun _ _ _ _ => rfl
  clear hr hr1 hc
  go_enter Try.func47, Try.ntmps47
  go_wp2_with fail
  refine HRI.out.mono ?_
  rintro e w1 ⟨rfl, hb1⟩
  have hs1 := hb1.size
  have hlt : w.heap.size < (w.alloc (.cells #[.int .i64 r] 3)).heap.size := by simp
  have HCO := Lib.hid (contains_any A n c w.heap.size r l w1 ((HR.out.below hb1).more hs1) ((hb1.cell (p := ⟨w.heap.size, 0, none⟩) hlt).trans HC.out))
  have hb2 : Below w.heap.size w w1 := hb0.trans (hb1.mono (by simp))
  clear HRI HR HC hb1 hb0 hs1 hlt
  have hs2 := hb2.size
  cases hd : rightB l with
  | false =>
    simp only []
    go_wp2_with fail
    go_ret
    exact ⟨ret_bool (by rw [hd]; rfl), hb2⟩
  | true =>
    simp only []
    go_wp2_with fail
    refine HCO.out.mono ?_
    rintro e w2 ⟨rfl, hb3⟩
    go_wp2_with fail
    go_ret
    exact ⟨ret_bool (by rw [hd]; rfl), hb2.trans (hb3.mono hs2)⟩
end Go.Proofs.Yteimpcjafgllpaa
namespace Go.Proofs.Yteimpcjafgllpaa.Mean
open Go.Proofs.Yteimpcjafgllpaa.Mach
section
variable (t : List Int)
variable {t}
variable {at_ : Nat}
/-- The Ends of a state. -/
def St.ends (s : St) (j : Nat) : Prop := ∃ p ∈ s.out, p.1 = j
theorem ended_ends {s : St} {pl : Nat} {nt : List Int} {j : Nat} : (ended at_ s pl nt).ends j ↔ s.ends j ∨ j = pl := by
  unfold ended
  split
  · rename_i h
    refine ⟨.inl, fun hh => hh.elim id fun e => ?_⟩
    obtain ⟨p, hp, e2⟩ := List.any_eq_true.1 h
    exact ⟨p, hp, by subst e; simpa using e2⟩
  · unfold St.ends
    simp only [List.mem_append, List.mem_singleton]
    constructor
    · rintro ⟨p, hp | rfl, rfl⟩
      · exact .inl ⟨p, hp, rfl⟩
      · exact .inr rfl
    · rintro (⟨p, hp, rfl⟩ | rfl)
      · exact ⟨p, .inl hp, rfl⟩
      · exact ⟨_, .inr rfl, rfl⟩
/-- A task was done: its mark was come to, its End is there. -/
def DoneK (s : St) : Kt → Nat → Prop
  | .top, pl => s.ends pl
  | .row [] K, pl => DoneK s K pl
  | .row (u :: _) _, pl => 0 < s.met (u.ad, pl, false)
  | .grp _ K, pl => DoneK s K pl
  | .dec n _, pl => 0 < s.met (n.ad, pl, true)
def Done (s : St) : Task → Prop
  | .beg n pl _ _ => 0 < s.met (n.ad, pl, false)
  | .dcd n pl _ _ => 0 < s.met (n.ad, pl, true)
  | .go K pl _ => DoneK s K pl
structure Grows (s s' : St) : Prop where
  met : ∀ m, 0 < s.met m → 0 < s'.met m
  ends : ∀ j, s.ends j → s'.ends j
theorem Grows.refl (s : St) : Grows s s := ⟨fun _ h => h, fun _ h => h⟩
theorem Grows.trans {s s1 s2 : St} (h : Grows s s1) (g : Grows s1 s2) : Grows s s2 := ⟨fun m hm => g.met m (h.met m hm), fun j hj => g.ends j (h.ends j hj)⟩
theorem Grows.doneK {s s' : St} (h : Grows s s') : ∀ {K : Kt} {pl : Nat}, DoneK s K pl → DoneK s' K pl
  | .top, _, hd => h.ends _ hd
  | .row [] K, _, hd => Grows.doneK h (K := K) hd
  | .row (_ :: _) _, _, hd => h.met _ hd
  | .grp _ K, _, hd => Grows.doneK h (K := K) hd
  | .dec _ _, _, hd => h.met _ hd
theorem Grows.done {s s' : St} (h : Grows s s') {k : Task} (hd : Done s k) : Done s' k := by
  cases k with
  | beg n pl nt K => exact h.met _ hd
  | dcd n pl nt K => exact h.met _ hd
  | go K pl nt => exact h.doneK hd
theorem grows_mark (s : St) (m : Mark) : Grows s (s.mark m) := ⟨fun x hx => by unfold St.mark; simp only []; split <;> omega, fun j h => h⟩
theorem work_grows (s : St) (k : Task) : Grows s (work t at_ s k).1 := by
  cases k with
  | beg n pl nt K => exact grows_mark _ _
  | dcd n pl nt K => exact grows_mark _ _
  | go K pl nt =>
    cases K with
    | top => exact ⟨fun m hm => by simp only [work, ended]; split <;> exact hm, fun j hj => ended_ends.2 (.inl hj)⟩
    | row l K => exact Grows.refl _
    | grp i K => exact Grows.refl _
    | dec n K => exact Grows.refl _
mutual
theorem one_grows : ∀ {s s' : St} {k : Task}, One t at_ s k s' → Grows s s'
  | s, _, k, .mk h => (work_grows s k).trans (many_grows h)
theorem many_grows : ∀ {s s' : St} {l : List Task}, Many t at_ s l s' → Grows s s'
  | s, _, [], .nil => Grows.refl s
  | _, _, _ :: _, .cons h1 h2 => (one_grows h1).trans (many_grows h2)
end
/-- Of what was met newly, all that begins is done. -/
def Full (t : List Int) (P : Un → Kt → Prop) (s s' : St) : Prop := ∀ n K pl, P n K → (0 < s'.met (n.ad, pl, false) → ¬ 0 < s.met (n.ad, pl, false) → ∀ nt, ∀ x ∈ first t n pl nt K, Done s' x) ∧ (0 < s'.met (n.ad, pl, true) → ¬ 0 < s.met (n.ad, pl, true) → ∀ nt, ∀ x ∈ choose n pl nt (.dec n K) K, Done s' x)
/-- To loop: x* or x+. -/
def Un.Loops (n : Un) : Prop := n.kind = -2 ∨ n.kind = -3
/-- What comes behind stands in the tree. -/
def rowSt (P : Un → Kt → Prop) (K : Kt) : List Un → Prop
  | [] => True
  | s :: l => P s (.row l K) ∧ rowSt P K l
def KSt (P : Un → Kt → Prop) : Kt → Prop
  | .top => True
  | .row l K => rowSt P K l ∧ KSt P K
  | .grp _ K => KSt P K
  | .dec n K => (P n K ∧ n.Loops) ∧ KSt P K
def TSt (P : Un → Kt → Prop) : Task → Prop
  | .beg n _ _ K => P n K
  | .dcd n _ _ K => P n K ∧ n.Loops
  | .go K _ _ => KSt P K
/-- Nodes with what comes behind them: each but once, and with them all that they come to. -/
structure Place (t : List Int) (P : Un → Kt → Prop) : Prop where
  one : ∀ n K n' K', P n K → P n' K' → n.ad = n'.ad → n = n' ∧ K = K'
  first : ∀ n K, P n K → ∀ pl nt, ∀ x ∈ first t n pl nt K, TSt P x
  decide : ∀ n K, P n K → n.Loops → ∀ pl nt, ∀ x ∈ choose n pl nt (.dec n K) K, TSt P x
  behind : ∀ n K, P n K → KSt P K
/-- A task without its notes. -/
def Task.plain : Task → Task
  | .beg n pl _ K => .beg n pl [] K
  | .dcd n pl _ K => .dcd n pl [] K
  | .go K pl _ => .go K pl []
theorem done_plain {s : St} {x : Task} : Done s x.plain ↔ Done s x := by cases x <;> exact Iff.rfl
theorem rowT_plain (l : List Un) (pl : Nat) (nt nt' : List Int) (K : Kt) : (rowT l pl nt K).plain = (rowT l pl nt' K).plain := by cases l <;> rfl
theorem choose_plain (n : Un) (pl : Nat) (nt nt' : List Int) (A K : Kt) : (choose n pl nt A K).map Task.plain = (choose n pl nt' A K).map Task.plain := by
  unfold choose
  cases n.subs with
  | nil => rfl
  | cons u l => cases n.lz <;> rfl
theorem first_plain (n : Un) (pl : Nat) (nt nt' : List Int) (K : Kt) : (first t n pl nt K).map Task.plain = (first t n pl nt' K).map Task.plain := by
  unfold first
  by_cases k1 : n.kind = 1
  · rw [if_pos k1, if_pos k1]; rfl
  rw [if_neg k1, if_neg k1]
  by_cases k2 : n.kind = 2
  · rw [if_pos k2, if_pos k2]
    by_cases h : pl < t.length ∧ memB n.rng (t.getD pl 0) = true
    · rw [if_pos h, if_pos h]; rfl
    · rw [if_neg h, if_neg h]
  rw [if_neg k2, if_neg k2]
  by_cases k3 : n.kind = 3
  · rw [if_pos k3, if_pos k3]
    by_cases h : asB t pl n.ast = true
    · rw [if_pos h, if_pos h]; rfl
    · rw [if_neg h, if_neg h]
  rw [if_neg k3, if_neg k3]
  by_cases k4 : n.kind = 4
  · rw [if_pos k4, if_pos k4, List.map_cons, List.map_cons, rowT_plain n.subs pl nt nt' K]
  rw [if_neg k4, if_neg k4]
  by_cases k5 : n.kind = 5
  · rw [if_pos k5, if_pos k5, List.map_map, List.map_map]; rfl
  rw [if_neg k5, if_neg k5]
  by_cases k7 : n.kind = 7
  · rw [if_pos k7, if_pos k7]; cases n.subs <;> rfl
  rw [if_neg k7, if_neg k7]
  by_cases m1 : n.kind = -1
  · rw [if_pos m1, if_pos m1]; exact choose_plain n pl nt nt' K K
  rw [if_neg m1, if_neg m1]
  by_cases m2 : n.kind = -2
  · rw [if_pos m2, if_pos m2]; rfl
  rw [if_neg m2, if_neg m2]
  by_cases m3 : n.kind = -3
  · rw [if_pos m3, if_pos m3]; cases n.subs <;> rfl
  rw [if_neg m3, if_neg m3]
theorem plain_any {s : St} {l l' : List Task} (e : l.map Task.plain = l'.map Task.plain) (h : ∀ x ∈ l, Done s x) : ∀ x ∈ l', Done s x := by
  intro x hx
  have hm : x.plain ∈ l.map Task.plain := by rw [e]; exact List.mem_map_of_mem hx
  obtain ⟨y, hy, he⟩ := List.mem_map.1 hm
  have := h y hy
  rw [← done_plain, he, done_plain] at this
  exact this
theorem first_any {s : St} {n : Un} {pl : Nat} {nt nt' : List Int} {K : Kt} (h : ∀ x ∈ first t n pl nt K, Done s x) : ∀ x ∈ first t n pl nt' K, Done s x := plain_any (first_plain n pl nt nt' K) h
theorem decide_any {s : St} {n : Un} {pl : Nat} {nt nt' : List Int} {K A : Kt} (h : ∀ x ∈ choose n pl nt A K, Done s x) : ∀ x ∈ choose n pl nt' A K, Done s x := plain_any (choose_plain n pl nt nt' A K) h
theorem Full.trans {P : Un → Kt → Prop} {s s1 s2 : St} (h : Full t P s s1) (g : Full t P s1 s2) (hg : Grows s1 s2) : Full t P s s2 := by
  intro n K pl hP
  obtain ⟨h1, h2⟩ := h n K pl hP
  obtain ⟨g1, g2⟩ := g n K pl hP
  refine ⟨fun hm hn nt x hx => ?_, fun hm hn nt x hx => ?_⟩
  · by_cases hm1 : 0 < s1.met (n.ad, pl, false)
    · exact hg.done (h1 hm1 hn nt x hx)
    · exact g1 hm hm1 nt x hx
  · by_cases hm1 : 0 < s1.met (n.ad, pl, true)
    · exact hg.done (h2 hm1 hn nt x hx)
    · exact g2 hm hm1 nt x hx
end
end Go.Proofs.Yteimpcjafgllpaa.Mean
namespace Go.Proofs.Yteimpcjafgllpaa.Mean
open Go.Proofs.Yteimpcjafgllpaa.Mach
/-- What comes behind a node's subs. -/
def kidK (n : Un) (K : Kt) : Kt := if n.kind = 7 then .grp n.ix K else if n.kind = -2 ∨ n.kind = -3 then .dec n K else K
mutual
/-- All nodes, with what comes behind each. -/
def posU : Un → Kt → List (Un × Kt)
  | .mk a k r b i z l, K => (.mk a k r b i z l, K) :: (if k = 4 then posR l K else posA l (kidK (.mk a k r b i z l) K))
def posR : List Un → Kt → List (Un × Kt)
  | [], _ => []
  | s :: l, K => posU s (.row l K) ++ posR l K
def posA : List Un → Kt → List (Un × Kt)
  | [], _ => []
  | s :: l, K => posU s K ++ posA l K
end
def kids (n : Un) (K : Kt) : List (Un × Kt) := if n.kind = 4 then posR n.subs K else posA n.subs (kidK n K)
theorem posU_eq (n : Un) (K : Kt) : posU n K = (n, K) :: kids n K := by cases n; rw [posU]; rfl
theorem Un.ind {P : Un → Prop} (h : ∀ u, (∀ s ∈ u.subs, P s) → P u) : ∀ u, P u := fun u =>
  Un.rec (motive_1 := P) (motive_2 := fun l => ∀ s ∈ l, P s) (fun a k r b i z l ih => h (.mk a k r b i z l) ih) (by simp) (fun a l ha hl => by intro s hs; rcases List.mem_cons.1 hs with rfl | hs; exact ha; exact hl s hs) u
/-- The places have the nodes' blocks. -/
theorem pos_ads : ∀ (u : Un) (K : Kt), (posU u K).map (fun q => q.1.ad) = u.all.map Un.ad := by
  intro u
  induction u using Un.ind with
  | h u ih =>
    intro K
    have hR : ∀ (l : List Un), (∀ s ∈ l, ∀ K, (posU s K).map (fun q => q.1.ad) = s.all.map Un.ad) → ∀ K, (posR l K).map (fun q => q.1.ad) = (allU l).map Un.ad := by
      intro l
      induction l with
      | nil => intro _ K; rfl
      | cons s l ihl =>
        intro h K
        rw [posR, allU, List.map_append, List.map_append, h s List.mem_cons_self, ihl fun x hx => h x (List.mem_cons_of_mem _ hx)]
    have hA : ∀ (l : List Un), (∀ s ∈ l, ∀ K, (posU s K).map (fun q => q.1.ad) = s.all.map Un.ad) → ∀ K, (posA l K).map (fun q => q.1.ad) = (allU l).map Un.ad := by
      intro l
      induction l with
      | nil => intro _ K; rfl
      | cons s l ihl =>
        intro h K
        rw [posA, allU, List.map_append, List.map_append, h s List.mem_cons_self, ihl fun x hx => h x (List.mem_cons_of_mem _ hx)]
    rw [posU_eq, all_subs, List.map_cons, List.map_cons]
    unfold kids
    split
    · rw [hR u.subs ih]
    · rw [hA u.subs ih]
theorem posR_sub {l : List Un} {K : Kt} {s : Un} {b : List Un} {a : List Un} (h : l = a ++ s :: b) : ∀ q ∈ posU s (.row b K), q ∈ posR l K := by
  subst h
  induction a with
  | nil => intro q hq; rw [List.nil_append, posR]; exact List.mem_append_left _ hq
  | cons x a ih => intro q hq; rw [List.cons_append, posR]; exact List.mem_append_right _ (ih q hq)
theorem posA_sub {l : List Un} {K : Kt} {s : Un} (h : s ∈ l) : ∀ q ∈ posU s K, q ∈ posA l K := by
  induction l with
  | nil => cases h
  | cons x l ih =>
    intro q hq
    rw [posA]
    rcases List.mem_cons.1 h with rfl | h
    · exact List.mem_append_left _ hq
    · exact List.mem_append_right _ (ih h q hq)
theorem mem_posR {l : List Un} {K : Kt} {q : Un × Kt} (h : q ∈ posR l K) : ∃ a s b, l = a ++ s :: b ∧ q ∈ posU s (.row b K) := by
  induction l with
  | nil => cases h
  | cons x l ih =>
    rw [posR] at h
    rcases List.mem_append.1 h with h | h
    · exact ⟨[], x, l, rfl, h⟩
    · obtain ⟨a, s, b, e, h2⟩ := ih h
      exact ⟨x :: a, s, b, by rw [e]; rfl, h2⟩
theorem mem_posA {l : List Un} {K : Kt} {q : Un × Kt} (h : q ∈ posA l K) : ∃ s ∈ l, q ∈ posU s K := by
  induction l with
  | nil => cases h
  | cons x l ih =>
    rw [posA] at h
    rcases List.mem_append.1 h with h | h
    · exact ⟨x, List.mem_cons_self, h⟩
    · obtain ⟨s, hs, h⟩ := ih h
      exact ⟨s, List.mem_cons_of_mem _ hs, h⟩
/-- A place's places are places. -/
theorem pos_trans : ∀ (u : Un) (K : Kt) (n : Un) (K' : Kt), (n, K') ∈ posU u K → ∀ q ∈ posU n K', q ∈ posU u K := by
  intro u
  induction u using Un.ind with
  | h u ih =>
    intro K n K' hn q hq
    rw [posU_eq] at hn
    rcases List.mem_cons.1 hn with e | hn
    · simp only [Prod.mk.injEq] at e
      obtain ⟨rfl, rfl⟩ := e
      exact hq
    rw [posU_eq]
    refine List.mem_cons_of_mem _ ?_
    unfold kids at hn ⊢
    split at hn
    · rename_i h4
      rw [if_pos h4]
      obtain ⟨a, s, b, hs, hm⟩ := mem_posR hn
      exact posR_sub hs q (ih s (by rw [hs]; simp) _ n K' hm q hq)
    · rename_i h4
      rw [if_neg h4]
      obtain ⟨s, hs, hm⟩ := mem_posA hn
      exact posA_sub hs q (ih s hs _ n K' hm q hq)
section
variable {t : List Int} {root : Un}
/-- To stand in the tree. -/
def InT (root : Un) (n : Un) (K : Kt) : Prop := (n, K) ∈ posU root .top
theorem inT_kid {n : Un} {K : Kt} (h : InT root n K) {q : Un × Kt} (hq : q ∈ kids n K) : InT root q.1 q.2 :=
  pos_trans root .top n K h q (by rw [posU_eq]; exact List.mem_cons_of_mem _ hq)
theorem self_pos (n : Un) (K : Kt) : (n, K) ∈ posU n K := by rw [posU_eq]; exact List.mem_cons_self
theorem inT_row {n : Un} {K : Kt} (h : InT root n K) (h4 : n.kind = 4) {a b : List Un} {s : Un} (hs : n.subs = a ++ s :: b) : InT root s (.row b K) :=
  inT_kid h (q := (s, .row b K)) (by unfold kids; rw [if_pos h4]; exact posR_sub hs _ (self_pos s _))
theorem inT_sub {n : Un} {K : Kt} (h : InT root n K) (h4 : n.kind ≠ 4) {s : Un} (hs : s ∈ n.subs) : InT root s (kidK n K) :=
  inT_kid h (q := (s, kidK n K)) (by unfold kids; rw [if_neg h4]; exact posA_sub hs _ (self_pos s _))
theorem rowSt_of {n : Un} {K : Kt} (h : InT root n K) (h4 : n.kind = 4) : ∀ {b a : List Un}, n.subs = a ++ b → rowSt (InT root) K b
  | [], _, _ => trivial
  | s :: b, a, hs => ⟨inT_row h h4 hs, rowSt_of h h4 (a := a ++ [s]) (by rw [hs]; simp)⟩
/-- What comes behind a node that stands, stands. -/
theorem behind_of : ∀ (u : Un) (K : Kt), InT root u K → KSt (InT root) K → ∀ n K', (n, K') ∈ posU u K → KSt (InT root) K' := by
  intro u
  induction u using Un.ind with
  | h u ih =>
    intro K hu hK n K' hn
    rw [posU_eq] at hn
    rcases List.mem_cons.1 hn with e | hn
    · simp only [Prod.mk.injEq] at e
      rw [e.2]; exact hK
    unfold kids at hn
    split at hn
    · rename_i h4
      obtain ⟨a, s, b, hs, hm⟩ := mem_posR hn
      have hs1 := inT_row hu h4 hs
      exact ih s (by rw [hs]; simp) _ hs1 ⟨rowSt_of hu h4 (a := a ++ [s]) (by rw [hs]; simp), hK⟩ n K' hm
    · rename_i h4
      obtain ⟨s, hs, hm⟩ := mem_posA hn
      have hs1 := inT_sub hu h4 hs
      refine ih s hs _ hs1 ?_ n K' hm
      unfold kidK
      split
      · exact hK
      · split
        · rename_i hl; exact ⟨⟨hu, hl⟩, hK⟩
        · exact hK
theorem nodup_one {α β : Type} {f : α → β} : ∀ {l : List α}, (l.map f).Nodup → ∀ {x y : α}, x ∈ l → y ∈ l → f x = f y → x = y
  | [], _, x, _, hx, _, _ => by cases hx
  | a :: l, hn, x, y, hx, hy, e => by
    rw [List.map_cons, List.nodup_cons] at hn
    rcases List.mem_cons.1 hx with hx1 | hx1
    · rcases List.mem_cons.1 hy with hy1 | hy1
      · rw [hx1, hy1]
      · exact absurd (by rw [← hx1, e]; exact List.mem_map_of_mem hy1) hn.1
    · rcases List.mem_cons.1 hy with hy1 | hy1
      · exact absurd (by rw [← hy1, ← e]; exact List.mem_map_of_mem hx1) hn.1
      · exact nodup_one hn.2 hx1 hy1 e
theorem place_of (hd : (root.all.map Un.ad).Nodup) : Place t (InT root) where
  one := fun n K n' K' h1 h2 e => by
    have hd2 : ((posU root .top).map fun q => q.1.ad).Nodup := by rw [pos_ads]; exact hd
    have := nodup_one hd2 h1 h2 e
    simp only [Prod.mk.injEq] at this
    exact this
  first := fun n K h pl nt x hx => by
    have hb := behind_of root .top (self_pos root .top) trivial n K h
    unfold first at hx
    by_cases k1 : n.kind = 1
    · rw [if_pos k1, List.mem_singleton] at hx; subst hx; exact hb
    rw [if_neg k1] at hx
    by_cases k2 : n.kind = 2
    · rw [if_pos k2] at hx
      split at hx
      · rw [List.mem_singleton] at hx; subst hx; exact hb
      · cases hx
    rw [if_neg k2] at hx
    by_cases k3 : n.kind = 3
    · rw [if_pos k3] at hx
      split at hx
      · rw [List.mem_singleton] at hx; subst hx; exact hb
      · cases hx
    rw [if_neg k3] at hx
    by_cases k4 : n.kind = 4
    · rw [if_pos k4, List.mem_singleton] at hx; subst hx
      cases hs : n.subs with
      | nil => exact hb
      | cons s l => exact inT_row (a := []) h k4 hs
    rw [if_neg k4] at hx
    by_cases k5 : n.kind = 5
    · rw [if_pos k5] at hx
      obtain ⟨s, hs, rfl⟩ := List.mem_map.1 hx
      have := inT_sub h k4 hs
      unfold kidK at this
      rw [if_neg (by rw [k5]; decide), if_neg (by rw [k5]; decide)] at this
      exact this
    rw [if_neg k5] at hx
    by_cases k7 : n.kind = 7
    · rw [if_pos k7] at hx
      split at hx
      · cases hx
      · rename_i s l hs
        rw [List.mem_singleton] at hx; subst hx
        have := inT_sub h k4 (s := s) (by rw [hs]; exact List.mem_cons_self)
        unfold kidK at this
        rw [if_pos k7] at this
        exact this
    rw [if_neg k7] at hx
    by_cases m1 : n.kind = -1
    · rw [if_pos m1] at hx
      unfold choose at hx
      split at hx
      · cases hx
      · rename_i s l hs
        have := inT_sub h k4 (s := s) (by rw [hs]; exact List.mem_cons_self)
        unfold kidK at this
        rw [if_neg k7, if_neg (by rw [m1]; decide)] at this
        split at hx <;> (simp only [List.mem_cons, List.not_mem_nil, or_false] at hx; rcases hx with rfl | rfl)
        · exact hb
        · exact this
        · exact this
        · exact hb
    rw [if_neg m1] at hx
    by_cases m2 : n.kind = -2
    · rw [if_pos m2, List.mem_singleton] at hx; subst hx; exact ⟨h, .inl m2⟩
    rw [if_neg m2] at hx
    by_cases m3 : n.kind = -3
    · rw [if_pos m3] at hx
      split at hx
      · cases hx
      · rename_i s l hs
        rw [List.mem_singleton] at hx; subst hx
        have := inT_sub h k4 (s := s) (by rw [hs]; exact List.mem_cons_self)
        unfold kidK at this
        rw [if_neg k7, if_pos (.inr m3)] at this
        exact this
    rw [if_neg m3] at hx
    cases hx
  decide := fun n K h hl pl nt x hx => by
    have hb := behind_of root .top (self_pos root .top) trivial n K h
    have k4 : n.kind ≠ 4 := by rcases hl with e | e <;> rw [e] <;> decide
    have k7 : n.kind ≠ 7 := by rcases hl with e | e <;> rw [e] <;> decide
    unfold choose at hx
    split at hx
    · cases hx
    · rename_i s l hs
      have hk := inT_sub h k4 (s := s) (by rw [hs]; exact List.mem_cons_self)
      unfold kidK at hk
      rw [if_neg k7, if_pos (show n.kind = -2 ∨ n.kind = -3 from hl)] at hk
      split at hx <;> (simp only [List.mem_cons, List.not_mem_nil, or_false] at hx; rcases hx with rfl | rfl)
      · exact hb
      · exact hk
      · exact hk
      · exact hb
  behind := fun n K h => behind_of root .top (self_pos root .top) trivial n K h
variable {at_ pl : Nat} {nt : List Int}
end
end Go.Proofs.Yteimpcjafgllpaa.Mean
namespace Go.Proofs.Yteimpcjafgllpaa
open Go.RowKit
set_option maxHeartbeats 400000 in
theorem refDomain_any (r : Int) (w : World) :
    Calls Try.prog 87 #[.int .i64 r] w fun e w' => e = .returned (.bool (dom r)) ∧ w = w' := by
  go_enter Try.func87, Try.ntmps87
  go_wp2
  all_goals go_ret
  all_goals exact ⟨ret_bool (by unfold dom; rw [Bool.eq_iff_iff]; simp; omega), rfl⟩
set_option maxRecDepth 100000 in
set_option maxHeartbeats 4000000 in
theorem refRight_any (A : Option Addr) (n c B : Nat) (l : List (Int × Int)) (w : World) (hr : Reads w B 2 A n c (flat l)) :
    Calls Try.prog 74 #[.slice A n c] w fun e w' => e = .returned (.bool (rightB l)) ∧ ∃ m, w.drewN m = w' := by
  have hlen : l.length = n := by have := hr.len; rw [flat_length] at this; omega
  have HLEN := Lib.hid hlen
  have hnc := hr.le
  have hcap := hr.cap
  have HR := Lib.hid hr
  clear hlen hr
  by_cases hbig : 5000 < n
  · have HF := Lib.hid (show rightB l = false from by unfold rightB; rw [decide_eq_false (by have := HLEN.out; omega)]; rfl)
    go_enter Try.func74, Try.ntmps74
    go_wp2_with fail
    go_ret
    exact ⟨ret_bool HF.out.symm, 0, rfl⟩
  have hn5 : n ≤ 5000 := by omega
  go_enter Try.func74, Try.ntmps74
  go_wp2_with fail
  go_loopw [3] (fun p wr => ∃ i : Nat, i ≤ n ∧ p = .int .i64 i ∧ (∀ j, j < i → okAt l j = true) ∧ ∃ m, w.drewN m = wr) (fun p _ => n - (intOf p).toNat)
  case atStart => exact ⟨0, Nat.zero_le _, rfl, fun j hj => absurd hj (by omega), 0, rfl⟩
  case round =>
    obtain ⟨i, hi1, rfl, hok, m, rfl⟩ := hrel
    have HOK := Lib.hid hok
    clear hok
    by_cases hlt : i < n
    · obtain ⟨x, hx⟩ : ∃ x, l[i]? = some x := ⟨_, List.getElem?_eq_getElem (by have := HLEN.out; omega)⟩
      obtain ⟨b, off, rfl, hb, hcell⟩ := HR.out.at_ (by omega)
      have hc1 : w.cell? ⟨b, off + i * 2, none⟩ = some (.int .i64 x.1) := hcell _ _ (flat_get l i x hx).1
      have hc2 : w.cell? ⟨b, off + i * 2 + 1, none⟩ = some (.int .i64 x.2) := by rw [Nat.add_assoc]; exact hcell _ _ (flat_get l i x hx).2
      have HX := Lib.hid hx
      have HC := Lib.hid hcell
      obtain ⟨x1, x2⟩ := x
      have HNO := Lib.hid (show okAt l i = false → rightB l = false from fun h => cls_no (by have := HLEN.out; omega) h)
      have HBAD := Lib.hid (show okx (x1, x2) = false → rightB l = false from fun h => HNO.out (by unfold okAt; rw [HX.out]; simp [h]))
      clear hcell hx
      cases hd1 : dom x1 with
      | false =>
        have HF := Lib.hid (HBAD.out (by simp [okx, hd1]))
        go_wp2_with (go_at_call 87; refine (refDomain_any _ _).mono ?_; rintro e w' ⟨rfl, rfl⟩; first | rw [hd1] | skip)
        go_quiet (fail)
        go_wp2_with fail
        go_ret
        exact ⟨ret_bool HF.out.symm, m + nq, by first | rfl | rw [World.drewN_drewN]⟩
      | true =>
      cases hd2 : dom x2 with
      | false =>
        have HF := Lib.hid (HBAD.out (by simp [okx, hd2]))
        go_wp2_with (go_at_call 87; refine (refDomain_any _ _).mono ?_; rintro e w' ⟨rfl, rfl⟩; first | rw [hd1] | rw [hd2])
        go_quiet (fail)
        go_wp2_with fail
        go_ret
        exact ⟨ret_bool HF.out.symm, m + nq, by first | rfl | rw [World.drewN_drewN]⟩
      | true =>
      have hx0 : 0 ≤ x1 ∧ x1 ≤ 1114111 := by simp only [dom, decide_eq_true_eq] at hd1; omega
      have hx3 : 0 ≤ x2 ∧ x2 ≤ 1114111 := by simp only [dom, decide_eq_true_eq] at hd2; omega
      obtain ⟨hx0, hx1⟩ := hx0
      obtain ⟨hx2, hx3⟩ := hx3
      by_cases g1 : x2 < x1
      · have HF := Lib.hid (HBAD.out (by simp [okx]; omega))
        have hA : decide (x2 < x1) = true := decide_eq_true g1
        go_wp2_with (go_at_call 87; refine (refDomain_any _ _).mono ?_; rintro e w' ⟨rfl, rfl⟩; first | rw [hd1] | rw [hd2])
        go_quiet (fail)
        go_wp2_with fail
        go_ret
        exact ⟨ret_bool HF.out.symm, m + nq, by first | rfl | rw [World.drewN_drewN]⟩
      have hA : decide (x2 < x1) = false := decide_eq_false g1
      by_cases g2 : x1 ≤ 55295 ∧ 57344 ≤ x2
      · obtain ⟨g2, g3⟩ := g2
        have HF := Lib.hid (HBAD.out (by simp [okx]; omega))
        have hB : decide (x1 ≤ 55295) = true := decide_eq_true g2
        have hC : decide (57344 ≤ x2) = true := decide_eq_true g3
        go_wp2_with (go_at_call 87; refine (refDomain_any _ _).mono ?_; rintro e w' ⟨rfl, rfl⟩; first | rw [hd1] | rw [hd2])
        go_quiet (fail)
        go_wp2_with fail
        go_ret
        exact ⟨ret_bool HF.out.symm, m + nq, by first | rfl | rw [World.drewN_drewN]⟩
      have HOX := Lib.hid (show okx (x1, x2) = true from by
        simp only [dom, decide_eq_true_eq] at hd1 hd2
        simp [okx, dom]; omega)
      have hd1' := hd1
      rcases Nat.eq_zero_or_pos i with h0 | h0
      · subst h0
        rw [Nat.zero_mul, Nat.add_zero] at hc1 hc2
        have HAT := Lib.hid (show okAt l 0 = true from by unfold okAt; rw [HX.out]; simp [HOX.out])
        have hd0 : decide ((0 : Int) < ((0 : Nat) : Int)) = false := rfl
        have hd0' : decide ((0 : Int) < 0) = false := rfl
        by_cases g3 : x1 ≤ 55295
        case' pos => have hB : decide (x1 ≤ 55295) = true := decide_eq_true g3; have hC : decide (57344 ≤ x2) = false := decide_eq_false (by omega)
        case' neg => have hB : decide (x1 ≤ 55295) = false := decide_eq_false g3
        all_goals
          go_wp2_with (go_at_call 87; refine (refDomain_any _ _).mono ?_; rintro e w' ⟨rfl, rfl⟩; first | rw [hd1] | rw [hd2])
          go_quiet (fail)
          rw [World.drewN_drewN]
          obtain ⟨q0, hq0⟩ : ∃ q, q = m + nq := ⟨_, rfl⟩
          rw [← hq0]
          clear hq0
          go_wp2_with fail
          go_quiet (fail)
          go_wp2_with fail
          go_roundw
          case rel => exact ⟨1, by omega, by go_num, fun j hj => (show j = 0 from by omega) ▸ HAT.out, q0 + nq, by first | rfl | rw [World.drewN_drewN]⟩
          case measure => simp [intOf]; omega
      · obtain ⟨y, hy⟩ : ∃ y, l[i - 1]? = some y := ⟨_, List.getElem?_eq_getElem (by have := HLEN.out; omega)⟩
        have hc3 : w.cell? ⟨b, off + (i - 1) * 2 + 1, none⟩ = some (.int .i64 y.2) := by rw [Nat.add_assoc]; exact HC.out _ _ (flat_get l (i - 1) y hy).2
        have hyk : okx y = true := by
          have := HOK.out (i - 1) (by omega)
          unfold okAt at this
          rw [hy] at this
          simp only [Bool.and_eq_true] at this
          exact this.1
        have HY := Lib.hid hy
        obtain ⟨y1, y2⟩ := y
        have hy2 : 0 ≤ y2 ∧ y2 ≤ 1114111 := by simp only [okx, dom, Bool.and_eq_true, decide_eq_true_eq] at hyk; omega
        obtain ⟨hy2, hy3⟩ := hy2
        clear hy hyk
        have hd0 : decide ((0 : Int) < (i : Int)) = true := decide_eq_true (by omega)
        have hi0 : ((i : Int) - 1).toNat = i - 1 := by omega
        have hi2 : 0 ≤ (i : Int) - 1 := by omega
        have hi3 : (i : Int) - 1 < n := by omega
        have hw1 : IntKind.i64.wrap ((i : Int) - 1) = (i : Int) - 1 := IntWalk.i64_in _ (by omega)
        have hw2 : IntKind.i64.wrap (y2 + 2) = y2 + 2 := IntWalk.i64_in _ (by omega)
        have HOR := Lib.hid (show okAt l i = true → ∀ j, j < i + 1 → okAt l j = true from fun hat j hj => by
            rcases Nat.lt_or_ge j i with h | h
            · exact HOK.out j h
            · exact (show j = i from by omega) ▸ hat)
        by_cases g4 : x1 < y2 + 2
        · have HF := Lib.hid (HNO.out (by unfold okAt; rw [HX.out]; simp only [HY.out, HOX.out, Bool.true_and]; simp; omega))
          have hd4 : decide (x1 < y2 + 2) = true := decide_eq_true g4
          rcases (show x1 ≤ 55295 ∨ x1 = 57344 ∨ (55295 < x1 ∧ x1 ≠ 57344) from by omega) with g3 | g3 | ⟨g3, g5⟩
          · have hB : decide (x1 ≤ 55295) = true := decide_eq_true g3
            have hC : decide (57344 ≤ x2) = false := decide_eq_false (by omega)
            have hE : (x1 == 57344) = false := beq_eq_false_iff_ne.2 (by omega)
            go_wp2_with (go_at_call 87; refine (refDomain_any _ _).mono ?_; rintro e w' ⟨rfl, rfl⟩; first | rw [hd1] | rw [hd2])
            go_quiet (fail)
            rw [World.drewN_drewN]
            obtain ⟨q0, hq0⟩ : ∃ q, q = m + nq := ⟨_, rfl⟩
            rw [← hq0]
            clear hq0
            go_wp2_with fail
            go_quiet (fail)
            go_wp2_with fail
            go_ret
            exact ⟨ret_bool HF.out.symm, q0 + nq, by first | rfl | rw [World.drewN_drewN]⟩
          · have hB : decide (x1 ≤ 55295) = false := decide_eq_false (by omega)
            have hE : (x1 == 57344) = true := beq_iff_eq.2 g3
            have hF : (y2 == 55295) = false := beq_eq_false_iff_ne.2 (by omega)
            have HE := Lib.hid g3
            clear g3
            go_wp2_with (go_at_call 87; refine (refDomain_any _ _).mono ?_; rintro e w' ⟨rfl, rfl⟩; first | rw [hd1] | rw [hd2])
            go_quiet (fail)
            rw [World.drewN_drewN]
            obtain ⟨q0, hq0⟩ : ∃ q, q = m + nq := ⟨_, rfl⟩
            rw [← hq0]
            clear hq0
            go_wp2_with fail
            go_quiet (fail)
            go_wp2_with fail
            go_ret
            exact ⟨ret_bool HF.out.symm, q0 + nq, by first | rfl | rw [World.drewN_drewN]⟩
          · have hB : decide (x1 ≤ 55295) = false := decide_eq_false (by omega)
            have hE : (x1 == 57344) = false := beq_eq_false_iff_ne.2 g5
            clear g5
            go_wp2_with (go_at_call 87; refine (refDomain_any _ _).mono ?_; rintro e w' ⟨rfl, rfl⟩; first | rw [hd1] | rw [hd2])
            go_quiet (fail)
            rw [World.drewN_drewN]
            obtain ⟨q0, hq0⟩ : ∃ q, q = m + nq := ⟨_, rfl⟩
            rw [← hq0]
            clear hq0
            go_wp2_with fail
            go_quiet (fail)
            go_wp2_with fail
            go_ret
            exact ⟨ret_bool HF.out.symm, q0 + nq, by first | rfl | rw [World.drewN_drewN]⟩
        · have HAT := Lib.hid (HOR.out (show okAt l i = true from by unfold okAt; rw [HX.out]; simp only [HY.out, HOX.out, Bool.true_and]; simp; omega))
          have hd4 : decide (x1 < y2 + 2) = false := decide_eq_false g4
          by_cases g3 : x1 ≤ 55295
          case' pos => have hB : decide (x1 ≤ 55295) = true := decide_eq_true g3; have hC : decide (57344 ≤ x2) = false := decide_eq_false (by omega)
          case' neg => have hB : decide (x1 ≤ 55295) = false := decide_eq_false g3
          all_goals
            go_wp2_with (go_at_call 87; refine (refDomain_any _ _).mono ?_; rintro e w' ⟨rfl, rfl⟩; first | rw [hd1] | rw [hd2])
            go_quiet (fail)
            rw [World.drewN_drewN]
            obtain ⟨q0, hq0⟩ : ∃ q, q = m + nq := ⟨_, rfl⟩
            rw [← hq0]
            clear hq0
            go_wp2_with fail
            go_quiet (fail)
            go_wp2_with fail
            go_roundw
            case rel => exact ⟨i + 1, by omega, by go_num, HAT.out, q0 + nq, by first | rfl | rw [World.drewN_drewN]⟩
            case measure => simp [intOf]; omega
    · obtain rfl : i = n := by omega
      have HT := Lib.hid (show rightB l = true from cls_yes (by have := HLEN.out; omega) (fun j hj => HOK.out j (by have := HLEN.out; omega)))
      go_wp2_with fail
      go_ret
      exact ⟨ret_bool HT.out.symm, m, rfl⟩
end Go.Proofs.Yteimpcjafgllpaa
