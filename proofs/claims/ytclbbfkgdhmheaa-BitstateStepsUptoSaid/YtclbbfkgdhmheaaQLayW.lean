/- prog's maker: words. -/
import Derived.Test.YtclbbfkgdhmheaaQRowI
import Derived.Test.YtclbbfkgdhmheaaQSimp
import Derived.Test.YtclbbfkgdhmheaaQGreat
namespace Go.Proofs.Ytclbbfkgdhmheaa
open Go.RowKit Go.Proofs.Ytclbbfkgdhmheaa.Mach Go.Proofs.Ytclbbfkgdhmheaa.Tr
variable {X : List Nat}

/-- A row that has grown: by a tree's code, if it is not too long then. -/
structure LP (X : List Nat) (rb : Nat) (v : Value) (w : World) (L : List InV) (n : Nat) (code : List Ins) (v' : Value) (L' : List InV) (w' : World) : Prop where
  row : RowI X rb 52 v' L' w'
  rk : RKI rb v w v' w'
  ge : L.length ≤ L'.length
  le : L'.length ≤ L.length + n
  ok : L'.length ≤ 20000 → insL L' = insL L ++ code
theorem insL_app (a b : List InV) : insL (a ++ b) = insL a ++ insL b := by unfold insL; rw [List.map_append]
theorem insL_len (a : List InV) : (insL a).length = a.length := by unfold insL; rw [List.length_map]
theorem insL_set (a : List InV) (i : Nat) (u : InV) : insL (a.set i u) = (insL a).set i u.I := by unfold insL; rw [List.map_set]
theorem LP.trans {X' : List Nat} {rb : Nat} {v : Value} {w w1 w2 : World} {L L1 L2 : List InV} {n m : Nat} {c d : List Ins} {v1 v2 : Value} (h : LP X rb v w L n c v1 L1 w1) (g : LP X' rb v1 w1 L1 m d v2 L2 w2) : LP X' rb v w L (n + m) (c ++ d) v2 L2 w2 :=
  ⟨g.row, h.rk.trans g.rk, Nat.le_trans h.ge g.ge, by have := h.le; have := g.le; omega, fun hk => by rw [g.ok hk, h.ok (Nat.le_trans g.ge hk), List.append_assoc]⟩
theorem LP.refl {rb : Nat} {v : Value} {w w' : World} {L : List InV} (hr : RowI X rb 52 v L w) (hb : Below w.heap.size w w') : LP X rb v w L 0 [] v L w' :=
  ⟨hr.below hb, RKI.of_below hb, Nat.le_refl _, Nat.le_refl _, fun _ => (List.append_nil _).symm⟩
theorem LP.put {rb : Nat} {w w' : World} {L : List InV} {u : InV} {v v' : Value} (hr : RowI X rb 52 v' (L ++ [u]) w') (hk : RKI rb v w v' w') : LP X rb v w L 1 [u.I] v' (L ++ [u]) w' :=
  ⟨hr, hk, by simp, by simp, fun _ => by rw [insL_app]; rfl⟩
/-- An instruction of the row is turned: one that the code names. -/
theorem LP.below {rb : Nat} {v : Value} {w w' w2 : World} {L L' : List InV} {n : Nat} {c : List Ins} {v' : Value} (h : LP X rb v w L n c v' L' w') (hb : Below w'.heap.size w' w2) : LP X rb v w L n c v' L' w2 :=
  ⟨h.row.below hb, h.rk.trans (RKI.of_below hb), h.ge, h.le, h.ok⟩
theorem LP.set_ {rb : Nat} {v : Value} {w w' w2 : World} {L L' : List InV} {n : Nat} {c d : List Ins} {v' : Value} (h : LP X rb v w L n c v' L' w') {i : Nat} {u : InV} (hi : L.length ≤ i) (hr : RowI X rb 52 v' (L'.set i u) w2) (hk : RKI rb v' w' v' w2) (hd : L'.length ≤ 20000 → c.set (i - L.length) u.I = d) : LP X rb v w L n d v' (L'.set i u) w2 :=
  ⟨hr, h.rk.trans hk, by rw [List.length_set]; exact h.ge, by rw [List.length_set]; exact h.le, fun hl => by
    rw [List.length_set] at hl
    rw [insL_set, h.ok hl, List.set_append_right _ _ (by rw [insL_len]; exact hi), insL_len, hd hl]⟩
theorem LP.seq {X' : List Nat} {rb : Nat} {v : Value} {w w1 w2 : World} {L L1 L2 : List InV} {n m : Nat} {c : List Ins} {v1 v2 : Value} (h : LP X rb v w L n c v1 L1 w1) (hc : c.length = n) (f : Nat → List Ins) (g : LP X' rb v1 w1 L1 m (f L1.length) v2 L2 w2) : LP X' rb v w L (n + m) (c ++ f (L.length + n)) v2 L2 w2 := by
  have t := h.trans g
  refine ⟨t.row, t.rk, t.ge, t.le, fun hk => ?_⟩
  have h1 := congrArg List.length (h.ok (Nat.le_trans g.ge hk))
  rw [insL_len, List.length_append, insL_len, hc] at h1
  rw [t.ok hk, h1]
theorem LP.length {rb : Nat} {v : Value} {w w1 : World} {L L1 : List InV} {n : Nat} {c : List Ins} {v1 : Value} (h : LP X rb v w L n c v1 L1 w1) (hc : c.length = n) (hl : L1.length ≤ 20000) : L1.length = L.length + n := by
  have h1 := congrArg List.length (h.ok hl)
  rwa [insL_len, List.length_append, insL_len, hc] at h1
theorem set_modify {α : Type} (f : α → α) : ∀ (l : List α) (i : Nat) (a : α), l[i]? = some a → l.set i (f a) = l.modify i f
  | [], i, a, h => by simp at h
  | x :: l, 0, a, h => by simp at h; subst h; rfl
  | x :: l, i + 1, a, h => by rw [List.set_cons_succ, set_modify f l i a (by simpa using h)]; rfl
/-- An instruction of the row is turned. -/
theorem LP.mod {rb : Nat} {v : Value} {w w' w2 : World} {L L' : List InV} {n : Nat} {c d : List Ins} {v' : Value} (h : LP X rb v w L n c v' L' w') {i : Nat} {a u : InV} (f : Ins → Ins) (ha : L'[i]? = some a) (hu : u.I = f a.I) (hi : L.length ≤ i) (hr : RowI X rb 52 v' (L'.set i u) w2) (hk : RKI rb v' w' v' w2) (hd : L'.length ≤ 20000 → c.modify (i - L.length) f = d) : LP X rb v w L n d v' (L'.set i u) w2 := by
  refine h.set_ hi hr hk fun hl => ?_
  rw [← hd hl, hu]
  refine set_modify f c _ a.I ?_
  have h1 : (insL L')[i]? = some a.I := by unfold insL; rw [List.getElem?_map, ha]; rfl
  rw [h.ok hl, List.getElem?_append_right (by rw [insL_len]; exact hi), insL_len] at h1
  exact h1
theorem codesS_app : ∀ (a b : List Tr.Tr) (n : Nat), codesS (a ++ b) n = codesS a n ++ codesS b (n + lensS a)
  | [], b, n => by rw [List.nil_append, codesS, lensS]; rfl
  | t :: a, b, n => by rw [List.cons_append, codesS, codesS_app a b, codesS, lensS, List.append_assoc, Nat.add_assoc]
theorem lensS_app : ∀ a b : List Tr.Tr, lensS (a ++ b) = lensS a + lensS b
  | [], b => by rw [List.nil_append, lensS]; omega
  | t :: a, b => by rw [List.cons_append, lensS, lensS_app a b, lensS]; omega
theorem codes_len (l : List Tr.Tr) (b : Nat) : (codesS l b).length = lensS l := codes_length l (fun s _ b => code_length s b) b
theorem lens_take (l : List Tr.Tr) (i : Nat) : lensS (l.take i) ≤ lensS l := by
  have := congrArg lensS (List.take_append_drop i l)
  rw [lensS_app] at this
  omega
theorem wrI {x : Int} (h : -9223372036854775808 ≤ x ∧ x < 9223372036854775808) : IntKind.i64.wrap x = x := by rw [IntKind.wrap_i64]; omega
theorem RowI.drew {rb : Nat} {ty : TypeId} {v : Value} {L : List InV} {w : World} (h : RowI X rb ty v L w) : RowI X rb ty v L w.drew := h.below (bdrewN (Below.refl _ _) 1)
theorem LP.drew {rb : Nat} {v : Value} {w w' : World} {L L' : List InV} {n : Nat} {c : List Ins} {v' : Value} (h : LP X rb v w L n c v' L' w') : LP X rb v w L n c v' L' w'.drew := h.below (bdrewN (Below.refl _ _) 1)
theorem NB.drew {rb g : Nat} {ty : TypeId} {cs : List Value} {v : Value} {w : World} (h : NB rb g ty cs v w) : NB rb g ty cs v w.drew := ⟨h.blk, h.ne, h.sep⟩
theorem LP.cast {rb : Nat} {v : Value} {w w' : World} {L L' : List InV} {n n' : Nat} {c c' : List Ins} {v' : Value} (h : LP X rb v w L n c v' L' w') (hn : n = n') (hc : c = c') : LP X rb v w L n' c' v' L' w' := by subst hn hc; exact h
/-- maker.lay answers so of a tree. -/
def LY (t : Ta) : Prop := ∀ (X : List Nat) (S : Nat → Prop) (w : World) (rb : Nat) (v : Value) (L : List InV), RT w S t → (∀ b, S b → b < rb) → RowI X rb 52 v L w → L.length + lenS t.tr ≤ 1000000000 →
    Calls Try.prog 15 #[(.pointer (some ⟨rb, 0, none⟩)), t.val] w fun e w' => e = .returned (.tuple #[]) ∧ ∃ v' L', LP X rb v w L (lenS t.tr) (codeS t.tr L.length) v' L' w'
end Go.Proofs.Ytclbbfkgdhmheaa
/- prog's maker: an instruction of the row is turned. -/
namespace Go.Proofs.Ytclbbfkgdhmheaa
open Go.RowKit Go.Proofs.Ytclbbfkgdhmheaa.Mach Go.Proofs.Ytclbbfkgdhmheaa.Tr
variable {X : List Nat}

def fX (x : Int) (I : Ins) : Ins := ⟨I.op, x, I.y, I.arg, I.rng⟩
def fY (y : Int) (I : Ins) : Ins := ⟨I.op, I.x, y, I.arg, I.rng⟩
def atI (a : InV) (I : Ins) : InV := ⟨I, a.A, a.n, a.c⟩
section
variable {rb g c0 i n : Nat} {v : Value} {w w' : World} {L L' : List InV} {c : List Ins} {a : InV}
theorem LP.setX {k : Nat} (h : LP X rb v w L n c (.slice (some ⟨g, 0, none⟩) k c0) L' w') (hk : k = L'.length) (ha : L'[i]? = some a) (hi : L.length ≤ i) (x : Int) :
    LP X rb v w L n (c.modify (i - L.length) (fX x)) (.slice (some ⟨g, 0, none⟩) k c0) (L'.set i (atI a (fX x a.I))) (w'.setCell ⟨g, i * 5 + 1, none⟩ (.int .i64 x)) := by
  subst hk
  have hr := h.row.set_ (q := 1) (x := .int .i64 x) (u := atI a (fX x a.I)) ha (by omega) rfl (h.row.els a (List.mem_of_getElem? ha))
  rw [List.length_set] at hr
  exact h.mod (fX x) ha rfl hi hr RowI.set_k (fun _ => rfl)
theorem LP.setY {k : Nat} (h : LP X rb v w L n c (.slice (some ⟨g, 0, none⟩) k c0) L' w') (hk : k = L'.length) (ha : L'[i]? = some a) (hi : L.length ≤ i) (y : Int) :
    LP X rb v w L n (c.modify (i - L.length) (fY y)) (.slice (some ⟨g, 0, none⟩) k c0) (L'.set i (atI a (fY y a.I))) (w'.setCell ⟨g, i * 5 + 2, none⟩ (.int .i64 y)) := by
  subst hk
  have hr := h.row.set_ (q := 2) (x := .int .i64 y) (u := atI a (fY y a.I)) ha (by omega) rfl (h.row.els a (List.mem_of_getElem? ha))
  rw [List.length_set] at hr
  exact h.mod (fY y) ha rfl hi hr RowI.set_k (fun _ => rfl)
/-- Both cells. -/
theorem LP.setXY {k : Nat} (h : LP X rb v w L n c (.slice (some ⟨g, 0, none⟩) k c0) L' w') (hk : k = L'.length) (ha : L'[i]? = some a) (hi : L.length ≤ i) (x y : Int) :
    LP X rb v w L n (c.modify (i - L.length) (fun I => fY y (fX x I))) (.slice (some ⟨g, 0, none⟩) k c0) (L'.set i (atI a (fY y (fX x a.I)))) ((w'.setCell ⟨g, i * 5 + 1, none⟩ (.int .i64 x)).setCell ⟨g, i * 5 + 2, none⟩ (.int .i64 y)) := by
  have hil : i < L'.length := (List.getElem?_eq_some_iff.1 ha).1
  have h1 := (h.setX hk ha hi x).setY (by rw [List.length_set]; exact hk) (a := atI a (fX x a.I)) (by rw [List.getElem?_set_self hil]) hi y
  rw [List.set_set, List.modify_modify_eq] at h1
  exact h1
theorem LP.finish {m : Nat} {d : List Ins} {v' : Value} (h : LP X rb v w L n c v' L' w') (hn : n = m) (hc : L'.length ≤ 20000 → c = d) : LP X rb v w L m d v' L' w' := by
  subst hn
  exact ⟨h.row, h.rk, h.ge, h.le, fun hk => by rw [h.ok hk, hc hk]⟩
theorem LP.slice {A : Option Addr} (h : LP X rb v w L n c (.slice A L'.length c0) L' w') (hne : 0 < L'.length) : ∃ g, A = some ⟨g, 0, none⟩ ∧ rb ≤ g ∧ g < w'.heap.size := by
  obtain ⟨g, hg, -, h1, h2⟩ := own_form h.row.own hne
  exact ⟨g, hg, h1, h2⟩
theorem LP.frozen {k : Nat} (h : LP X rb v w L n c (.slice (some ⟨g, 0, none⟩) k c0) L' w') (hk : k = L'.length) (j : Nat) : w'.frozen? ⟨g, j, none⟩ = false := by subst hk; exact own_frozen h.row.own j
/-- The cells X and Y of an instruction of the row. -/
theorem LP.cellX {k : Nat} (h : LP X rb v w L n c (.slice (some ⟨g, 0, none⟩) k c0) L' w') (hk : k = L'.length) (ha : L'[i]? = some a) : w'.cell? ⟨g, i * 5 + 1, none⟩ = some (.int .i64 a.I.x) := by subst hk; exact own_cell h.row.own (insRow_get L' i 1 a ha (by omega))
theorem LP.cellY {k : Nat} (h : LP X rb v w L n c (.slice (some ⟨g, 0, none⟩) k c0) L' w') (hk : k = L'.length) (ha : L'[i]? = some a) : w'.cell? ⟨g, i * 5 + 2, none⟩ = some (.int .i64 a.I.y) := by subst hk; exact own_cell h.row.own (insRow_get L' i 2 a ha (by omega))
set_option maxRecDepth 100000 in
set_option maxHeartbeats 1000000 in
theorem next_cell (rb : Nat) (A : Option Addr) (n c : Nat) (w : World) (e0 : w.cell? ⟨rb, 0, none⟩ = some (.slice A n c)) :
    Calls Try.prog 30 #[.pointer (some ⟨rb, 0, none⟩)] w fun e w' => e = .returned (.int .i64 n) ∧ w' = w := by
  go_enter Try.func30, Try.ntmps30
  go_wp2_with fail
  go_ret
  exact ⟨rfl, rfl⟩
theorem LP.at0 {v' : Value} {I : Ins} (h : LP X rb v w L n (I :: c) v' L' w') (ha : L'[L.length]? = some a) (hl : L'.length ≤ 20000) : a.I = I := by
  have h1 : (insL L')[L.length]? = some a.I := by unfold insL; rw [List.getElem?_map, ha]; rfl
  rw [h.ok hl, List.getElem?_append_right (by rw [insL_len]; exact Nat.le_refl _), insL_len, Nat.sub_self] at h1
  exact (Option.some.inj h1).symm
theorem modify_last (c : List Ins) (x : Ins) (f : Ins → Ins) (k : Nat) (hk : k = c.length) : (c ++ [x]).modify k f = c ++ [f x] := by
  subst hk
  induction c with
  | nil => rfl
  | cons y c ih => rw [List.cons_append, List.length_cons, List.modify_succ_cons, ih]; rfl
end
end Go.Proofs.Ytclbbfkgdhmheaa
/- prog's maker: alternatives: words. -/
namespace Go.Proofs.Ytclbbfkgdhmheaa
open Go.RowKit Go.Proofs.Ytclbbfkgdhmheaa.Mach Go.Proofs.Ytclbbfkgdhmheaa.Tr
variable {X : List Nat}

/-- Alternatives but the last, each with a Nop behind it that goes on with the next one. -/
def altP : List Tr.Tr → Nat → List Ins
  | [], _ => []
  | t :: l, b => ⟨2, (b + 1 : Nat), (b + 1 + lenS t + 1 : Nat), 0, []⟩ :: (codeS t (b + 1) ++ ⟨7, (b + 1 + lenS t + 1 : Nat), 0, 0, []⟩ :: altP l (b + 1 + lenS t + 1))
/-- Where the Nops stand. -/
def nopsS : List Tr.Tr → Nat → List Nat
  | [], _ => []
  | t :: l, b => (b + 1 + lenS t) :: nopsS l (b + 1 + lenS t + 1)
theorem altP_length : ∀ (l : List Tr.Tr) (b : Nat), (altP l b).length = lensS l + 2 * l.length
  | [], b => rfl
  | t :: l, b => by rw [altP, lensS, List.length_cons, List.length_append, List.length_cons, altP_length l, code_length, List.length_cons]; omega
theorem altP_app : ∀ (l : List Tr.Tr) (t : Tr.Tr) (b : Nat), altP (l ++ [t]) b = altP l b ++ (⟨2, ((b + (lensS l + 2 * l.length) + 1 : Nat) : Int), ((b + (lensS l + 2 * l.length) + 1 + lenS t + 1 : Nat) : Int), 0, []⟩ :: (codeS t (b + (lensS l + 2 * l.length) + 1) ++ [⟨7, ((b + (lensS l + 2 * l.length) + 1 + lenS t + 1 : Nat) : Int), 0, 0, []⟩]))
  | [], t, b => rfl
  | u :: l, t, b => by
    rw [List.cons_append, altP, altP_app l t, altP, lensS, List.length_cons]
    have e : b + 1 + lenS u + 1 + (lensS l + 2 * l.length) = b + (lenS u + lensS l + 2 * (l.length + 1)) := by omega
    rw [e, List.cons_append, List.append_assoc, List.cons_append]
theorem nopsS_app : ∀ (l : List Tr.Tr) (t : Tr.Tr) (b : Nat), nopsS (l ++ [t]) b = nopsS l b ++ [b + (lensS l + 2 * l.length) + 1 + lenS t]
  | [], t, b => rfl
  | u :: l, t, b => by
    rw [List.cons_append, nopsS, nopsS_app l t, nopsS, lensS, List.length_cons, List.cons_append]
    have e : b + 1 + lenS u + 1 + (lensS l + 2 * l.length) = b + (lenS u + lensS l + 2 * (l.length + 1)) := by omega
    rw [e]
theorem modify_mid (c d : List Ins) (x : Ins) (f : Ins → Ins) (k : Nat) (hk : k = c.length) : (c ++ x :: d).modify k f = c ++ f x :: d := by
  subst hk
  induction c with
  | nil => rfl
  | cons y c ih => rw [List.cons_append, List.length_cons, List.modify_succ_cons, ih]; rfl
/-- All Nops go on with e in the end. -/
theorem altP_end (e : Nat) (t : Tr.Tr) : ∀ (l : List Tr.Tr) (b b0 : Nat) (pre : List Ins), b = b0 + pre.length →
    (nopsS l b).foldl (fun c o => c.modify (o - b0) (fX (e : Int))) (pre ++ (altP l b ++ codeS t (b + (lensS l + 2 * l.length)))) = pre ++ altS (l ++ [t]) b e
  | [], b, b0, pre, h => by
    rw [nopsS, altP, List.nil_append, List.nil_append, List.foldl_nil, altS, if_pos (show ([] : List Tr.Tr).isEmpty = true from rfl)]
    rfl
  | u :: l, b, b0, pre, h => by
    rw [nopsS, List.foldl_cons, altP, show altS (u :: l ++ [t]) b e = altS (u :: (l ++ [t])) b e from rfl, altS, if_neg (by simp), List.cons_append]
    have ih := altP_end e t l (b + 1 + lenS u + 1) b0 (pre ++ ⟨2, (b + 1 : Nat), (b + 1 + lenS u + 1 : Nat), 0, []⟩ :: (codeS u (b + 1) ++ [⟨7, (e : Nat), 0, 0, []⟩])) (by rw [List.length_append, List.length_cons, List.length_append, code_length, List.length_singleton]; omega)
    have e1 : b + (lensS (u :: l) + 2 * (u :: l).length) = b + 1 + lenS u + 1 + (lensS l + 2 * l.length) := by rw [lensS, List.length_cons]; omega
    rw [e1]
    have e2 : (pre ++ (⟨2, ((b + 1 : Nat) : Int), ((b + 1 + lenS u + 1 : Nat) : Int), 0, []⟩ :: ((codeS u (b + 1) ++ (⟨7, ((b + 1 + lenS u + 1 : Nat) : Int), 0, 0, []⟩ :: altP l (b + 1 + lenS u + 1))) ++ codeS t (b + 1 + lenS u + 1 + (lensS l + 2 * l.length))))).modify (b + 1 + lenS u - b0) (fX (e : Int)) = (pre ++ ⟨2, (b + 1 : Nat), (b + 1 + lenS u + 1 : Nat), 0, []⟩ :: (codeS u (b + 1) ++ [⟨7, (e : Nat), 0, 0, []⟩])) ++ (altP l (b + 1 + lenS u + 1) ++ codeS t (b + 1 + lenS u + 1 + (lensS l + 2 * l.length))) := by
      have := modify_mid (pre ++ ⟨2, (b + 1 : Nat), (b + 1 + lenS u + 1 : Nat), 0, []⟩ :: codeS u (b + 1)) (altP l (b + 1 + lenS u + 1) ++ codeS t (b + 1 + lenS u + 1 + (lensS l + 2 * l.length))) ⟨7, (b + 1 + lenS u + 1 : Nat), 0, 0, []⟩ (fX (e : Int)) (b + 1 + lenS u - b0) (by rw [List.length_append, List.length_cons, code_length]; omega)
      simp only [List.append_assoc, List.cons_append, List.nil_append] at this ⊢
      exact this
    rw [e2, ih]
    simp only [List.append_assoc, List.cons_append, List.nil_append]
theorem fold_len (e : Int) (b0 : Nat) : ∀ (os : List Nat) (c : List Ins), (os.foldl (fun c o => c.modify (o - b0) (fX e)) c).length = c.length
  | [], c => rfl
  | o :: os, c => by rw [List.foldl_cons, fold_len e b0 os, List.length_modify]

/-- A row of numbers of the call's own, apart from the row of instructions. -/
structure OR (rb B : Nat) (v o : Value) (os : List Nat) (w : World) : Prop where
  own : w.ownsRow B 3 1 o os.length (os.map fun n : Nat => Value.int .i64 (n : Int))
  ne : ∀ b, o.ownBlock = some b → b ≠ rb ∧ v.ownBlock ≠ some b
section
variable {rb B g n : Nat} {v v1 o : Value} {os : List Nat} {w w1 w' : World} {L L' : List InV} {c : List Ins} {ty : TypeId} {cs : List Value}
theorem OR.nil : OR rb B v (.slice none 0 0) [] w := ⟨World.ownsRow_nil _ _ _ _, fun b h => by cases h⟩
theorem OR.below (h : OR rb B v o os w) (hb : Below w.heap.size w w1) : OR rb B v o os w1 := ⟨own_below h.own hb, h.ne⟩
theorem RKI.or (h : RKI rb v w v1 w1) (n : OR rb B v o os w) : OR rb B v1 o os w1 := by
  refine ⟨own_kept n.own h.kept fun b hb hm => ?_, fun b hb => ⟨(n.ne b hb).1, fun e => ?_⟩⟩
  · rcases List.mem_cons.1 hm with hm | hm
    · exact (n.ne b hb).1 hm
    · exact (n.ne b hb).2 (by simpa using hm)
  · rcases h.ow with f | ⟨y, f, hy⟩
    · exact (n.ne b hb).2 (f.symm.trans e)
    · rw [f] at e
      have := (n.own.lt b hb).2
      simp at e
      omega
/-- The row of numbers is written, or grows. -/
theorem LP.grow {n' c' : Nat} {A : Option Addr} (h : LP ((Value.slice A n' c').ownBlock.toList ++ X) rb v w L n c v1 L' w1) (hk : Kept w1 w' (Value.slice A n' c').ownBlock.toList) (ho : ∀ b, (Value.slice A n' c').ownBlock = some b → w.heap.size ≤ b ∧ b ≠ rb ∧ v1.ownBlock ≠ some b) (hg : (Value.slice A n' c').ownBlock = some g ∨ w1.heap.size ≤ g) (hlt : g < w'.heap.size) :
    LP (g :: X) rb v w L n c v1 L' w' := by
  have hn : rb ∉ (Value.slice A n' c').ownBlock.toList := fun hm => (ho rb (by simpa using hm)).2.1 rfl
  have hL : ∀ x ∈ (rb :: v1.ownBlock.toList) ++ (g :: X), x ∈ (rb :: v1.ownBlock.toList) ++ ((Value.slice A n' c').ownBlock.toList ++ X) ∨ w1.heap.size ≤ x ∨ x < rb := fun x hx => by
    rcases List.mem_append.1 hx with hx | hx
    · exact .inl (List.mem_append_left _ hx)
    · rcases List.mem_cons.1 hx with rfl | hx
      · rcases hg with hg | hg
        · exact .inl (List.mem_append_right _ (List.mem_append_left _ (by rw [hg]; simp)))
        · exact .inr (.inl hg)
      · exact .inl (List.mem_append_right _ (List.mem_append_right _ hx))
  refine ⟨⟨h.row.blk.kept hk hn, own_kept h.row.own hk (fun b hb hm => (ho b (by simpa using hm)).2.2 hb), fun u hu => (h.row.els u hu).fr_kept hk (fun b hb => .inl (List.mem_append_right _ (List.mem_append_left _ hb))) hL, h.row.sep, fun x hx => ?_⟩, ⟨(h.rk.kept.trans hk).more ?_, h.rk.ow⟩, h.ge, h.le, h.ok⟩
  · rcases List.mem_cons.1 hx with rfl | hx
    · exact hlt
    · exact Nat.lt_of_lt_of_le (h.row.xs x (List.mem_append_right _ hx)) hk.size
  · intro x hx
    rcases List.mem_append.1 hx with hx | hx
    · exact .inl hx
    · exact .inr (ho x (by simpa using hx)).1
theorem LP.more {X' : List Nat} (h : LP X rb v w L n c v1 L' w') (hX : ∀ x ∈ X', x ∈ X) : LP X' rb v w L n c v1 L' w' := ⟨h.row.more hX, h.rk, h.ge, h.le, h.ok⟩
theorem NB.kept {g : Nat} {M : List Nat} (h : NB rb g ty cs v w) (hk : Kept w w' M) (hg : g ∉ M) : NB rb g ty cs v w' := ⟨h.blk.kept hk hg, h.ne, h.sep⟩
theorem NB.below {g : Nat} (h : NB rb g ty cs v w) (hk : Below w.heap.size w w') : NB rb g ty cs v w' := ⟨h.blk.below hk h.blk.lt, h.ne, h.sep⟩
end
theorem info_int0 : (Try.prog.info? 3).map (fun i => (i.zero, i.size, i.bytes)) = some (some (.int .i64 0), 1, 8) := by kernel_rfl
end Go.Proofs.Ytclbbfkgdhmheaa
