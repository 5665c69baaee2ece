/- simplify.unfolded's closure repeat. -/
import Derived.Test.YteimpcjafgllpaaQ13
import Derived.Test.YteimpcjafgllpaaQ36
namespace Go.Proofs.Yteimpcjafgllpaa
open Go.RowKit Go.Proofs.Yteimpcjafgllpaa.Tr
set_option maxRecDepth 100000 in
set_option maxHeartbeats 2000000 in
theorem rep_any (B : Nat) (L : List Nat) (u : Ta) (b : Nat) (mn mx : Int) (z : Bool) (w : World) (hz : w.cell? ⟨b, 6, none⟩ = some (.bool z)) (hu : RT w (Fr B L w) u) (hB : B ≤ w.heap.size) (hL : ∀ x ∈ L, x < w.heap.size) :
    Calls Try.prog 62 #[u.val, .int .i64 mn, .int .i64 mx, .pointer (some ⟨b, 0, none⟩)] w fun e w' => ∃ v : Ta, e = .returned v.val ∧ v.tr = repT u.tr mn mx z ∧ RT w' (Fr B L w') v ∧ Below w.heap.size w w' := by
  have hb2 := two_below w (.cells u.vals.toArray 25) (.cells #[.int .i64 0, .slice none 0 0, .int .i64 0, .slice none 0 0, .int .i64 0, .int .i64 0, .bool false, .int .i64 0, .string ⟨#[]⟩] 25)
  have hbl := World.block_lt_of_cell? w _ hz
  have hz2 : ((w.alloc (.cells u.vals.toArray 25)).alloc (.cells #[.int .i64 0, .slice none 0 0, .int .i64 0, .slice none 0 0, .int .i64 0, .int .i64 0, .bool false, .int .i64 0, .string ⟨#[]⟩] 25)).cell? ⟨b, 6, none⟩ = some (.bool z) := (hb2.cell (p := ⟨b, 6, none⟩) hbl).trans hz
  have HU := Lib.hid hu
  have HB2 := Lib.hid hb2
  have hbl2 : b < w.heap.size := hbl
  clear hu hb2 hz hbl
  cases u with
  | mk k' r' ra' rc' a' l' sa' sc' n' m' z' i' s' =>
  simp only [Ta.val, Ta.vals] at hz2 HB2 ⊢
  go_enter Try.func62, Try.ntmps62
  go_wp2_with fail
  have hb3 : Below w.heap.size w (((w.alloc (.cells #[.int .i64 k', .slice ra' r'.length rc', .int .i64 a', .slice sa' l'.length sc', .int .i64 n', .int .i64 m', .bool z', .int .i64 i', .string s'] 25)).alloc (.cells #[.int .i64 6, .slice none 0 0, .int .i64 0, .slice (some ⟨w.heap.size + 1 + 1, 0, none⟩) 1 1, .int .i64 mn, .int .i64 mx, .bool z, .int .i64 0, .string ⟨#[]⟩] 25)).alloc (.cells #[.int .i64 k', .slice ra' r'.length rc', .int .i64 a', .slice sa' l'.length sc', .int .i64 n', .int .i64 m', .bool z', .int .i64 i', .string s'] 25)) := (two_below w _ _).alloc (by simp; omega) _
  have hv : Blk (((w.alloc (.cells #[.int .i64 k', .slice ra' r'.length rc', .int .i64 a', .slice sa' l'.length sc', .int .i64 n', .int .i64 m', .bool z', .int .i64 i', .string s'] 25)).alloc (.cells #[.int .i64 6, .slice none 0 0, .int .i64 0, .slice (some ⟨w.heap.size + 1 + 1, 0, none⟩) 1 1, .int .i64 mn, .int .i64 mx, .bool z, .int .i64 0, .string ⟨#[]⟩] 25)).alloc (.cells #[.int .i64 k', .slice ra' r'.length rc', .int .i64 a', .slice sa' l'.length sc', .int .i64 n', .int .i64 m', .bool z', .int .i64 i', .string s'] 25)) (w.heap.size + 1) 25 [.int .i64 6, .slice none 0 0, .int .i64 0, .slice (some ⟨w.heap.size + 1 + 1, 0, none⟩) 1 1, .int .i64 mn, .int .i64 mx, .bool z, .int .i64 0, .string ⟨#[]⟩] := (two_blk w (.cells #[.int .i64 k', .slice ra' r'.length rc', .int .i64 a', .slice sa' l'.length sc', .int .i64 n', .int .i64 m', .bool z', .int .i64 i', .string s'] 25) 25 [.int .i64 6, .slice none 0 0, .int .i64 0, .slice (some ⟨w.heap.size + 1 + 1, 0, none⟩) 1 1, .int .i64 mn, .int .i64 mx, .bool z, .int .i64 0, .string ⟨#[]⟩]).alloc _
  have hs : Blk (((w.alloc (.cells #[.int .i64 k', .slice ra' r'.length rc', .int .i64 a', .slice sa' l'.length sc', .int .i64 n', .int .i64 m', .bool z', .int .i64 i', .string s'] 25)).alloc (.cells #[.int .i64 6, .slice none 0 0, .int .i64 0, .slice (some ⟨w.heap.size + 1 + 1, 0, none⟩) 1 1, .int .i64 mn, .int .i64 mx, .bool z, .int .i64 0, .string ⟨#[]⟩] 25)).alloc (.cells #[.int .i64 k', .slice ra' r'.length rc', .int .i64 a', .slice sa' l'.length sc', .int .i64 n', .int .i64 m', .bool z', .int .i64 i', .string s'] 25)) (w.heap.size + 1 + 1) 25 [.int .i64 k', .slice ra' r'.length rc', .int .i64 a', .slice sa' l'.length sc', .int .i64 n', .int .i64 m', .bool z', .int .i64 i', .string s'] := by
    have := Blk.new ((w.alloc (.cells #[.int .i64 k', .slice ra' r'.length rc', .int .i64 a', .slice sa' l'.length sc', .int .i64 n', .int .i64 m', .bool z', .int .i64 i', .string s'] 25)).alloc (.cells #[.int .i64 6, .slice none 0 0, .int .i64 0, .slice (some ⟨w.heap.size + 1 + 1, 0, none⟩) 1 1, .int .i64 mn, .int .i64 mx, .bool z, .int .i64 0, .string ⟨#[]⟩] 25)) 25 [.int .i64 k', .slice ra' r'.length rc', .int .i64 a', .slice sa' l'.length sc', .int .i64 n', .int .i64 m', .bool z', .int .i64 i', .string s']
    rwa [show ((w.alloc (.cells #[.int .i64 k', .slice ra' r'.length rc', .int .i64 a', .slice sa' l'.length sc', .int .i64 n', .int .i64 m', .bool z', .int .i64 i', .string s'] 25)).alloc (.cells #[.int .i64 6, .slice none 0 0, .int .i64 0, .slice (some ⟨w.heap.size + 1 + 1, 0, none⟩) 1 1, .int .i64 mn, .int .i64 mx, .bool z, .int .i64 0, .string ⟨#[]⟩] 25)).heap.size = w.heap.size + 1 + 1 from by simp] at this
  generalize ((w.alloc (.cells #[.int .i64 k', .slice ra' r'.length rc', .int .i64 a', .slice sa' l'.length sc', .int .i64 n', .int .i64 m', .bool z', .int .i64 i', .string s'] 25)).alloc (.cells #[.int .i64 6, .slice none 0 0, .int .i64 0, .slice (some ⟨w.heap.size + 1 + 1, 0, none⟩) 1 1, .int .i64 mn, .int .i64 mx, .bool z, .int .i64 0, .string ⟨#[]⟩] 25)).alloc (.cells #[.int .i64 k', .slice ra' r'.length rc', .int .i64 a', .slice sa' l'.length sc', .int .i64 n', .int .i64 m', .bool z', .int .i64 i', .string s'] 25) = wf at *
  refine bodyPost_ret (node_ret rfl _ _ (w.heap.size + 1) (Ta.mk 6 [] none 0 0 [Ta.mk k' r' ra' rc' a' l' sa' sc' n' m' z' i' s'] (some ⟨w.heap.size + 1 + 1, 0, none⟩) 1 mn mx z 0 ⟨#[]⟩) rfl hv) rfl ?_
  refine ⟨_, rfl, rfl, RT.of ⟨RdA.none_, by simp, by simp, by decide⟩ ?_ ?_, hb3⟩
  · refine ⟨Nat.le_refl _, by decide, rfl, (fun h => by cases h), fun _ => ⟨w.heap.size + 1 + 1, 0, rfl, ⟨by omega, hs.lt, fun hm => by have := hL _ hm; omega⟩, fun j v hj => ?_⟩⟩
    rw [Nat.zero_add, hs.cell]
    simpa [rowT, Ta.vals] using hj
  · intro v hv
    simp only [List.mem_singleton] at hv
    subst hv
    exact HU.out.fr_below hb3
end Go.Proofs.Yteimpcjafgllpaa
namespace Go.Proofs.Yteimpcjafgllpaa
open Go.RowKit Go.Proofs.Yteimpcjafgllpaa.Tr
/-- Rows of one row, so many times. -/
def repsT (p : List Tr.Tr) (j : Nat) : List Tr.Tr := (List.replicate j p).flatten
theorem reps_zero (p : List Tr.Tr) : repsT p 0 = [] := rfl
theorem reps_succ (p : List Tr.Tr) (j : Nat) : repsT p (j + 1) = repsT p j ++ p := by
  unfold repsT
  rw [List.replicate_succ', List.flatten_append]
  simp
theorem reps_len (p : List Tr.Tr) (j : Nat) : (repsT p j).length = j * p.length := by
  induction j with
  | zero => simp [reps_zero]
  | succ j ih => rw [reps_succ, List.length_append, ih, Nat.succ_mul]
theorem len_sizes (l : List Tr.Tr) : l.length ≤ sizes l := by
  induction l with
  | nil => simp
  | cons t l ih => have := size_pos t; rw [sizes, List.length_cons]; omega
theorem row_len (l : List Tr.Tr) : l.length ≤ size (row l) := by
  match l with
  | [] => simp
  | [x] => simp [row]; exact size_pos x
  | x :: y :: l =>
    have := len_sizes (x :: y :: l)
    rw [show row (x :: y :: l) = catT (x :: y :: l) from rfl, catT, size]
    omega
theorem subs_pos {t : Tr.Tr} (h : allB t = true) (hk : t.kind = 4) : 2 ≤ t.subs.length := by
  cases kinds h with
  | cat l hc hs => exact hc
  | empty => simp [emptyT, Tr.kind] at hk
  | cls r hr => simp [Tr.kind] at hk
  | ass a ha => simp [Tr.kind] at hk
  | alt l hc hs => simp [altT, Tr.kind] at hk
  | rep x n m z hx h0 hb hm => simp [repT, Tr.kind] at hk
  | group x i s hx h0 hb hm => simp [groupT, Tr.kind] at hk
theorem Ta.subs_len (t : Ta) : t.subs.length = t.tr.subs.length := by rw [Ta.tr_subs, List.length_map]
theorem putA_len (t : Ta) : (putA t).length = (putT t.tr).length := by rw [← putA_tr, trs_length]
theorem trs_append (a b : List Ta) : trs (a ++ b) = trs a ++ trs b := by rw [trs_map, trs_map, trs_map, List.map_append]
/-- What stands while a repeat is unfolded. -/
structure US (B : Nat) (X : List Nat) (w : World) (y t : Ta) (v : Value) (us : List Ta) (wr : World) : Prop where
  below : Below w.heap.size w wr
  yb : Blk wr w.heap.size 25 y.vals
  tb : Blk wr (w.heap.size + 1) 25 t.vals
  res : Blk wr (w.heap.size + 1 + 1) 25 [.int .i64 0, .slice none 0 0, .int .i64 0, .slice none 0 0, .int .i64 0, .int .i64 0, .bool false, .int .i64 0, .string ⟨#[]⟩]
  row : RowV B (w.heap.size + 1 + 1 + 1 + 1) ((w.heap.size + 1 + 1) :: X) (w.heap.size + 1 + 1 + 1) 76 f1 v us wr
  yt : RT wr (Fr B (((w.heap.size + 1 + 1) :: X) ++ (w.heap.size + 1 + 1 + 1) :: v.ownBlock.toList) wr) y
  xs : ∀ x ∈ X, w.heap.size + 1 + 1 + 1 < x ∧ x < wr.heap.size ∧ v.ownBlock ≠ some x
section
variable {B : Nat} {X : List Nat} {w : World} {y t : Ta} {v : Value} {us : List Ta} {wr wq : World}
theorem US.own_ge (h : US B X w y t v us wr) (g : Nat) (hg : v.ownBlock = some g) : w.heap.size + 1 + 1 + 1 < g ∧ g < wr.heap.size := by
  have := h.row.own.lt g hg; omega
theorem US.bel (h : US B X w y t v us wr) (hb : Below wr.heap.size wr wq) : US B X w y t v us wq :=
  ⟨h.below.trans (hb.mono h.below.size), h.yb.below hb h.yb.lt, h.tb.below hb h.tb.lt, h.res.below hb h.res.lt,
   ⟨h.row.blk.below hb h.row.blk.lt, own_below h.row.own hb, fun u hu => (h.row.els u hu).fr_below hb, h.row.sep⟩, h.yt.fr_below hb, fun x hx => ⟨(h.xs x hx).1, Nat.lt_of_lt_of_le (h.xs x hx).2.1 hb.size, (h.xs x hx).2.2⟩⟩
theorem US.put (h : US B X w y t v us wr) {v' : Value} {us' : List Ta} (hr : RowV B (w.heap.size + 1 + 1 + 1 + 1) ((w.heap.size + 1 + 1) :: X) (w.heap.size + 1 + 1 + 1) 76 f1 v' us' wq) (hk : Kept wr wq ((w.heap.size + 1 + 1 + 1) :: v.ownBlock.toList)) (hv : v'.ownBlock = v.ownBlock ∨ ∃ g, v'.ownBlock = some g ∧ wr.heap.size ≤ g) : US B X w y t v' us' wq := by
  have hB3 := h.row.blk.lt
  have hge : ∀ x ∈ (w.heap.size + 1 + 1 + 1) :: v.ownBlock.toList, w.heap.size + 1 + 1 < x := fun x hx => by
    rcases List.mem_cons.1 hx with rfl | hx
    · omega
    · have := h.own_ge x (by simpa using hx); omega
  refine ⟨Below.kept h.below hk (fun x hx => by have := hge x hx; omega) h.below.size, h.yb.kept hk (fun hm => by have := hge _ hm; omega), h.tb.kept hk (fun hm => by have := hge _ hm; omega), h.res.kept hk (fun hm => by have := hge _ hm; omega), hr, ?_, ?_⟩
  · refine h.yt.fr_kept hk (fun x hx => .inl (List.mem_append_right _ hx)) fun x hx => ?_
    rcases List.mem_append.1 hx with hx | hx
    · exact .inl (List.mem_append_left _ hx)
    · rcases List.mem_cons.1 hx with rfl | hx
      · exact .inl (by simp)
      · rcases hv with e | ⟨g, e, hg⟩
        · rw [e] at hx; exact .inl (List.mem_append_right _ (List.mem_cons_of_mem _ hx))
        · rw [e] at hx
          simp at hx
          subst hx
          exact .inr (.inl hg)
  · intro x hx
    obtain ⟨h1, h2, h3⟩ := h.xs x hx
    refine ⟨h1, Nat.lt_of_lt_of_le h2 hk.size, ?_⟩
    rcases hv with e | ⟨g, e, hg⟩
    · rw [e]; exact h3
    · rw [e]; intro e2; simp at e2; omega
/-- A block of X is written. -/
theorem US.setb (h : US B X w y t v us wr) {g : Nat} (hg : g ∈ X) (hk : Kept wr wq [g]) : US B X w y t v us wq := by
  obtain ⟨h1, h2, h3⟩ := h.xs g hg
  have hM : ∀ b ∈ [g], b ∈ ((w.heap.size + 1 + 1) :: X) ++ (w.heap.size + 1 + 1 + 1) :: v.ownBlock.toList ∨ wr.heap.size ≤ b ∨ b < B := fun b hb => by
    simp at hb; subst hb; exact .inl (List.mem_append_left _ (List.mem_cons_of_mem _ hg))
  refine ⟨Below.kept h.below hk (fun x hx => by simp at hx; omega) h.below.size, h.yb.kept hk (by simp; omega), h.tb.kept hk (by simp; omega), h.res.kept hk (by simp; omega), ⟨h.row.blk.kept hk (by simp; omega), own_kept h.row.own hk (fun b hb hm => by simp at hm; subst hm; exact h3 hb), fun u hu => (h.row.els u hu).fr_kept hk hM (fun b hb => .inl hb), h.row.sep⟩, h.yt.fr_kept hk hM (fun b hb => .inl hb), fun x hx => ?_⟩
  obtain ⟨g1, g2, g3⟩ := h.xs x hx
  exact ⟨g1, Nat.lt_of_lt_of_le g2 hk.size, g3⟩
theorem US.more (h : US B [] w y t v us wr) {g : Nat} (hb : Below wr.heap.size wr wq) (hg : wr.heap.size ≤ g) (hq : g < wq.heap.size) : US B [g] w y t v us wq := by
  have hq2 := h.bel hb
  have hB3 := h.row.blk.lt
  have hL : ∀ b ∈ [w.heap.size + 1 + 1, g] ++ (w.heap.size + 1 + 1 + 1) :: v.ownBlock.toList, b ∈ [w.heap.size + 1 + 1] ++ (w.heap.size + 1 + 1 + 1) :: v.ownBlock.toList ∨ wr.heap.size ≤ b ∨ b < B := fun b hb => by
    rcases List.mem_append.1 hb with hb | hb
    · simp at hb
      rcases hb with rfl | rfl
      · exact .inl (by simp)
      · exact .inr (.inl hg)
    · exact .inl (List.mem_append_right _ hb)
  refine ⟨hq2.below, hq2.yb, hq2.tb, hq2.res, ⟨hq2.row.blk, hq2.row.own, fun u hu => (h.row.els u hu).fr_kept (Kept.of_below (L := []) hb) (by simp) hL, h.row.sep⟩, h.yt.fr_kept (Kept.of_below (L := []) hb) (by simp) hL, fun x hx => ?_⟩
  simp at hx
  subst hx
  refine ⟨by omega, hq, fun e => ?_⟩
  have := h.own_ge x e
  omega
theorem US.less (h : US B X w y t v us wr) : US B [] w y t v us wr :=
  ⟨h.below, h.yb, h.tb, h.res, ⟨h.row.blk, h.row.own, fun u hu => (h.row.els u hu).fr_less (fun b hb => (by simp at hb ⊢; rcases hb with h | h; exact .inl h; exact .inr (.inr h))), h.row.sep⟩, h.yt.fr_less (fun b hb => (by simp at hb ⊢; rcases hb with h | h; exact .inl h; exact .inr (.inr h))), by simp⟩
end
theorem us_lt {B : Nat} {X : List Nat} {w : World} {y t : Ta} {v : Value} {us : List Ta} {wr : World} (h : US B X w y t v us wr) : ∀ x ∈ ((w.heap.size + 1 + 1) :: X) ++ (w.heap.size + 1 + 1 + 1) :: v.ownBlock.toList, x < wr.heap.size := fun x hx => by
  have hb := h.row.blk.lt
  rcases List.mem_append.1 hx with hx | hx
  · rcases List.mem_cons.1 hx with rfl | hx
    · omega
    · exact (h.xs x hx).2.1
  · rcases List.mem_cons.1 hx with rfl | hx
    · exact hb
    · exact (h.own_ge x (by simpa using hx)).2
theorem us_start (B : Nat) (y t : Ta) (w : World) (hy : RT w (Fr B [] w) y) (hB : B ≤ w.heap.size) {W : World} (hW : W = ((((w.alloc (.cells y.vals.toArray 25)).alloc (.cells t.vals.toArray 25)).alloc (.cells #[.int .i64 0, .slice none 0 0, .int .i64 0, .slice none 0 0, .int .i64 0, .int .i64 0, .bool false, .int .i64 0, .string ⟨#[]⟩] 25)).alloc (.cells #[.slice none 0 0] 76))) : US B [] w y t (.slice none 0 0) [] W := by
  have e2 : ((w.alloc (.cells y.vals.toArray 25)).alloc (.cells t.vals.toArray 25)).heap.size = w.heap.size + 1 + 1 := by simp
  have e3 : (((w.alloc (.cells y.vals.toArray 25)).alloc (.cells t.vals.toArray 25)).alloc (.cells #[.int .i64 0, .slice none 0 0, .int .i64 0, .slice none 0 0, .int .i64 0, .int .i64 0, .bool false, .int .i64 0, .string ⟨#[]⟩] 25)).heap.size = w.heap.size + 1 + 1 + 1 := by simp
  have hb3 : Below w.heap.size w (((w.alloc (.cells y.vals.toArray 25)).alloc (.cells t.vals.toArray 25)).alloc (.cells #[.int .i64 0, .slice none 0 0, .int .i64 0, .slice none 0 0, .int .i64 0, .int .i64 0, .bool false, .int .i64 0, .string ⟨#[]⟩] 25)) := (two_below w _ _).alloc (by rw [e2]; omega) _
  have hb : Below w.heap.size w W := hW ▸ hb3.alloc (by rw [e3]; omega) _
  have h2 := Blk.new ((w.alloc (.cells y.vals.toArray 25)).alloc (.cells t.vals.toArray 25)) 25 [.int .i64 0, .slice none 0 0, .int .i64 0, .slice none 0 0, .int .i64 0, .int .i64 0, .bool false, .int .i64 0, .string ⟨#[]⟩]
  rw [e2] at h2
  have h3 := Blk.new (((w.alloc (.cells y.vals.toArray 25)).alloc (.cells t.vals.toArray 25)).alloc (.cells #[.int .i64 0, .slice none 0 0, .int .i64 0, .slice none 0 0, .int .i64 0, .int .i64 0, .bool false, .int .i64 0, .string ⟨#[]⟩] 25)) 76 [.slice none 0 0]
  rw [e3] at h3
  refine ⟨hb, ?_, ?_, ?_, ⟨?_, World.ownsRow_nil _ _ _ _, by simp, by simp [Value.ownBlock]⟩, ?_, by simp⟩
  · rw [hW]; exact (((Blk.new w 25 y.vals).alloc _).alloc _).alloc _
  · rw [hW]; exact ((two_blk w _ 25 t.vals).alloc _).alloc _
  · rw [hW]; exact h2.alloc _
  · rw [hW]; exact h3
  · exact hy.fr_kept (Kept.of_below (L := []) hb) (by simp) (by simp [Value.ownBlock]; omega)
end Go.Proofs.Yteimpcjafgllpaa
namespace Go.Proofs.Yteimpcjafgllpaa
open Go.RowKit Go.Proofs.Yteimpcjafgllpaa.Tr
set_option maxRecDepth 100000 in
set_option maxHeartbeats 2000000 in
theorem unfT_star (B : Nat) (y : Ta) (k : Int) (r : List (Int × Int)) (ra : Option Addr) (rc : Nat) (ast : Int) (l : List Ta) (sa : Option Addr) (sc : Nat) (mn mx : Int) (z : Bool) (ix : Int) (nm : ByteArray) (w : World) (hy : RT w (Fr B [] w) y) (hB : B ≤ w.heap.size) (hm : mx < 0) (h0 : (mn == 0) = true) :
    Calls Try.prog 43 #[y.val, (Ta.mk k r ra rc ast l sa sc mn mx z ix nm).val] w fun e w' => ∃ u : Ta, e = .returned u.val ∧ u.tr = repT y.tr 0 (-1) z ∧ RT w' (Fr B [] w') u ∧ Below w.heap.size w w' := by
  have hus := us_start B y (Ta.mk k r ra rc ast l sa sc mn mx z ix nm) w hy hB rfl
  have hz : ((((w.alloc (.cells y.vals.toArray 25)).alloc (.cells (Ta.mk k r ra rc ast l sa sc mn mx z ix nm).vals.toArray 25)).alloc (.cells #[.int .i64 0, .slice none 0 0, .int .i64 0, .slice none 0 0, .int .i64 0, .int .i64 0, .bool false, .int .i64 0, .string ⟨#[]⟩] 25)).alloc (.cells #[.slice none 0 0] 76)).cell? ⟨w.heap.size + 1, 6, none⟩ = some (.bool z) := hus.tb.cell 6
  have HRE := Lib.hid (rep_any B ([w.heap.size + 1 + 1] ++ (w.heap.size + 1 + 1 + 1) :: (Value.slice none 0 0).ownBlock.toList) y (w.heap.size + 1) 0 (-1) z _ hz hus.yt (Nat.le_trans hB hus.below.size) (by have := hus.row.blk.lt; intro x hx; simp [Value.ownBlock] at hx; omega))
  have HUS := Lib.hid hus
  clear hz hus hy
  cases y with
  | mk k' r' ra' rc' a' l' sa' sc' n' m' z' i' s' =>
  simp only [Ta.val, Ta.vals] at HRE HUS ⊢
  have y0 : ((((w.alloc (.cells #[.int .i64 k', .slice ra' r'.length rc', .int .i64 a', .slice sa' l'.length sc', .int .i64 n', .int .i64 m', .bool z', .int .i64 i', .string s'] 25)).alloc (.cells #[.int .i64 k, .slice ra r.length rc, .int .i64 ast, .slice sa l.length sc, .int .i64 mn, .int .i64 mx, .bool z, .int .i64 ix, .string nm] 25)).alloc (.cells #[.int .i64 0, .slice none 0 0, .int .i64 0, .slice none 0 0, .int .i64 0, .int .i64 0, .bool false, .int .i64 0, .string ⟨#[]⟩] 25)).alloc (.cells #[.slice none 0 0] 76)).cell? ⟨w.heap.size, 0, none⟩ = some (.int .i64 k') := HUS.out.yb.cell 0
  have y1 : ((((w.alloc (.cells #[.int .i64 k', .slice ra' r'.length rc', .int .i64 a', .slice sa' l'.length sc', .int .i64 n', .int .i64 m', .bool z', .int .i64 i', .string s'] 25)).alloc (.cells #[.int .i64 k, .slice ra r.length rc, .int .i64 ast, .slice sa l.length sc, .int .i64 mn, .int .i64 mx, .bool z, .int .i64 ix, .string nm] 25)).alloc (.cells #[.int .i64 0, .slice none 0 0, .int .i64 0, .slice none 0 0, .int .i64 0, .int .i64 0, .bool false, .int .i64 0, .string ⟨#[]⟩] 25)).alloc (.cells #[.slice none 0 0] 76)).cell? ⟨w.heap.size, 1, none⟩ = some (.slice ra' r'.length rc') := HUS.out.yb.cell 1
  have y2 : ((((w.alloc (.cells #[.int .i64 k', .slice ra' r'.length rc', .int .i64 a', .slice sa' l'.length sc', .int .i64 n', .int .i64 m', .bool z', .int .i64 i', .string s'] 25)).alloc (.cells #[.int .i64 k, .slice ra r.length rc, .int .i64 ast, .slice sa l.length sc, .int .i64 mn, .int .i64 mx, .bool z, .int .i64 ix, .string nm] 25)).alloc (.cells #[.int .i64 0, .slice none 0 0, .int .i64 0, .slice none 0 0, .int .i64 0, .int .i64 0, .bool false, .int .i64 0, .string ⟨#[]⟩] 25)).alloc (.cells #[.slice none 0 0] 76)).cell? ⟨w.heap.size, 2, none⟩ = some (.int .i64 a') := HUS.out.yb.cell 2
  have y3 : ((((w.alloc (.cells #[.int .i64 k', .slice ra' r'.length rc', .int .i64 a', .slice sa' l'.length sc', .int .i64 n', .int .i64 m', .bool z', .int .i64 i', .string s'] 25)).alloc (.cells #[.int .i64 k, .slice ra r.length rc, .int .i64 ast, .slice sa l.length sc, .int .i64 mn, .int .i64 mx, .bool z, .int .i64 ix, .string nm] 25)).alloc (.cells #[.int .i64 0, .slice none 0 0, .int .i64 0, .slice none 0 0, .int .i64 0, .int .i64 0, .bool false, .int .i64 0, .string ⟨#[]⟩] 25)).alloc (.cells #[.slice none 0 0] 76)).cell? ⟨w.heap.size, 3, none⟩ = some (.slice sa' l'.length sc') := HUS.out.yb.cell 3
  have y4 : ((((w.alloc (.cells #[.int .i64 k', .slice ra' r'.length rc', .int .i64 a', .slice sa' l'.length sc', .int .i64 n', .int .i64 m', .bool z', .int .i64 i', .string s'] 25)).alloc (.cells #[.int .i64 k, .slice ra r.length rc, .int .i64 ast, .slice sa l.length sc, .int .i64 mn, .int .i64 mx, .bool z, .int .i64 ix, .string nm] 25)).alloc (.cells #[.int .i64 0, .slice none 0 0, .int .i64 0, .slice none 0 0, .int .i64 0, .int .i64 0, .bool false, .int .i64 0, .string ⟨#[]⟩] 25)).alloc (.cells #[.slice none 0 0] 76)).cell? ⟨w.heap.size, 4, none⟩ = some (.int .i64 n') := HUS.out.yb.cell 4
  have y5 : ((((w.alloc (.cells #[.int .i64 k', .slice ra' r'.length rc', .int .i64 a', .slice sa' l'.length sc', .int .i64 n', .int .i64 m', .bool z', .int .i64 i', .string s'] 25)).alloc (.cells #[.int .i64 k, .slice ra r.length rc, .int .i64 ast, .slice sa l.length sc, .int .i64 mn, .int .i64 mx, .bool z, .int .i64 ix, .string nm] 25)).alloc (.cells #[.int .i64 0, .slice none 0 0, .int .i64 0, .slice none 0 0, .int .i64 0, .int .i64 0, .bool false, .int .i64 0, .string ⟨#[]⟩] 25)).alloc (.cells #[.slice none 0 0] 76)).cell? ⟨w.heap.size, 5, none⟩ = some (.int .i64 m') := HUS.out.yb.cell 5
  have y6 : ((((w.alloc (.cells #[.int .i64 k', .slice ra' r'.length rc', .int .i64 a', .slice sa' l'.length sc', .int .i64 n', .int .i64 m', .bool z', .int .i64 i', .string s'] 25)).alloc (.cells #[.int .i64 k, .slice ra r.length rc, .int .i64 ast, .slice sa l.length sc, .int .i64 mn, .int .i64 mx, .bool z, .int .i64 ix, .string nm] 25)).alloc (.cells #[.int .i64 0, .slice none 0 0, .int .i64 0, .slice none 0 0, .int .i64 0, .int .i64 0, .bool false, .int .i64 0, .string ⟨#[]⟩] 25)).alloc (.cells #[.slice none 0 0] 76)).cell? ⟨w.heap.size, 6, none⟩ = some (.bool z') := HUS.out.yb.cell 6
  have y7 : ((((w.alloc (.cells #[.int .i64 k', .slice ra' r'.length rc', .int .i64 a', .slice sa' l'.length sc', .int .i64 n', .int .i64 m', .bool z', .int .i64 i', .string s'] 25)).alloc (.cells #[.int .i64 k, .slice ra r.length rc, .int .i64 ast, .slice sa l.length sc, .int .i64 mn, .int .i64 mx, .bool z, .int .i64 ix, .string nm] 25)).alloc (.cells #[.int .i64 0, .slice none 0 0, .int .i64 0, .slice none 0 0, .int .i64 0, .int .i64 0, .bool false, .int .i64 0, .string ⟨#[]⟩] 25)).alloc (.cells #[.slice none 0 0] 76)).cell? ⟨w.heap.size, 7, none⟩ = some (.int .i64 i') := HUS.out.yb.cell 7
  have y8 : ((((w.alloc (.cells #[.int .i64 k', .slice ra' r'.length rc', .int .i64 a', .slice sa' l'.length sc', .int .i64 n', .int .i64 m', .bool z', .int .i64 i', .string s'] 25)).alloc (.cells #[.int .i64 k, .slice ra r.length rc, .int .i64 ast, .slice sa l.length sc, .int .i64 mn, .int .i64 mx, .bool z, .int .i64 ix, .string nm] 25)).alloc (.cells #[.int .i64 0, .slice none 0 0, .int .i64 0, .slice none 0 0, .int .i64 0, .int .i64 0, .bool false, .int .i64 0, .string ⟨#[]⟩] 25)).alloc (.cells #[.slice none 0 0] 76)).cell? ⟨w.heap.size, 8, none⟩ = some (.string s') := HUS.out.yb.cell 8
  go_enter Try.func43, Try.ntmps43
  go_wp2_with fail
  refine HRE.out.mono ?_
  rintro e w5 ⟨v, rfl, htr, hrt, hb5⟩
  have HU5 := Lib.hid (HUS.out.bel hb5)
  have HTR := Lib.hid htr
  have HRT := Lib.hid hrt
  clear hb5 htr hrt HRE HUS y0 y1 y2 y3 y4 y5 y6 y7 y8
  cases v with
  | mk k2 r2 ra2 rc2 a2 l2 sa2 sc2 n2 m2 z2 i2 s2 =>
  have q0 : w5.cell? ⟨w.heap.size + 1 + 1, 0, none⟩ = some (.int .i64 0) := HU5.out.res.cell 0
  have q1 : w5.cell? ⟨w.heap.size + 1 + 1, 1, none⟩ = some (.slice none 0 0) := HU5.out.res.cell 1
  have q2 : w5.cell? ⟨w.heap.size + 1 + 1, 2, none⟩ = some (.int .i64 0) := HU5.out.res.cell 2
  have q3 : w5.cell? ⟨w.heap.size + 1 + 1, 3, none⟩ = some (.slice none 0 0) := HU5.out.res.cell 3
  have q4 : w5.cell? ⟨w.heap.size + 1 + 1, 4, none⟩ = some (.int .i64 0) := HU5.out.res.cell 4
  have q5 : w5.cell? ⟨w.heap.size + 1 + 1, 5, none⟩ = some (.int .i64 0) := HU5.out.res.cell 5
  have q6 : w5.cell? ⟨w.heap.size + 1 + 1, 6, none⟩ = some (.bool false) := HU5.out.res.cell 6
  have q7 : w5.cell? ⟨w.heap.size + 1 + 1, 7, none⟩ = some (.int .i64 0) := HU5.out.res.cell 7
  have q8 : w5.cell? ⟨w.heap.size + 1 + 1, 8, none⟩ = some (.string ⟨#[]⟩) := HU5.out.res.cell 8
  have fz0 := HU5.out.res.frozen 0
  have fz1 := HU5.out.res.frozen 1
  have fz2 := HU5.out.res.frozen 2
  have fz3 := HU5.out.res.frozen 3
  have fz4 := HU5.out.res.frozen 4
  have fz5 := HU5.out.res.frozen 5
  have fz6 := HU5.out.res.frozen 6
  have fz7 := HU5.out.res.frozen 7
  have fz8 := HU5.out.res.frozen 8
  have fz9 := HU5.out.res.lt
  simp only []
  go_wp2_with fail
  refine bodyPost_ret (node_ret rfl _ _ (w.heap.size + 1 + 1) (Ta.mk k2 r2 ra2 rc2 a2 l2 sa2 sc2 n2 m2 z2 i2 s2) rfl (show Blk (((((((((w5.setCell ⟨w.heap.size + 1 + 1, 0, none⟩ (.int .i64 k2)).setCell ⟨w.heap.size + 1 + 1, 1, none⟩ (.slice ra2 r2.length rc2)).setCell ⟨w.heap.size + 1 + 1, 2, none⟩ (.int .i64 a2)).setCell ⟨w.heap.size + 1 + 1, 3, none⟩ (.slice sa2 l2.length sc2)).setCell ⟨w.heap.size + 1 + 1, 4, none⟩ (.int .i64 n2)).setCell ⟨w.heap.size + 1 + 1, 5, none⟩ (.int .i64 m2)).setCell ⟨w.heap.size + 1 + 1, 6, none⟩ (.bool z2)).setCell ⟨w.heap.size + 1 + 1, 7, none⟩ (.int .i64 i2)).setCell ⟨w.heap.size + 1 + 1, 8, none⟩ (.string s2)) (w.heap.size + 1 + 1) 25 (Ta.mk k2 r2 ra2 rc2 a2 l2 sa2 sc2 n2 m2 z2 i2 s2).vals from (((((((((HU5.out.res.set_ 0 (.int .i64 k2)).set_ 1 (.slice ra2 r2.length rc2)).set_ 2 (.int .i64 a2)).set_ 3 (.slice sa2 l2.length sc2)).set_ 4 (.int .i64 n2)).set_ 5 (.int .i64 m2)).set_ 6 (.bool z2)).set_ 7 (.int .i64 i2)).set_ 8 (.string s2)))) rfl ?_
  refine ⟨Ta.mk k2 r2 ra2 rc2 a2 l2 sa2 sc2 n2 m2 z2 i2 s2, rfl, HTR.out, HRT.out.fr_kept (kept9 w5 (w.heap.size + 1 + 1) 0 (.int .i64 k2) (.slice ra2 r2.length rc2) (.int .i64 a2) (.slice sa2 l2.length sc2) (.int .i64 n2) (.int .i64 m2) (.bool z2) (.int .i64 i2) (.string s2)) (by simp) (by simp), Below.kept HU5.out.below (kept9 w5 (w.heap.size + 1 + 1) 0 (.int .i64 k2) (.slice ra2 r2.length rc2) (.int .i64 a2) (.slice sa2 l2.length sc2) (.int .i64 n2) (.int .i64 m2) (.bool z2) (.int .i64 i2) (.string s2)) (by intro b hb; simp at hb; omega) HU5.out.below.size⟩
set_option maxRecDepth 100000 in
set_option maxHeartbeats 2000000 in
theorem unfT_plus (B : Nat) (y : Ta) (k : Int) (r : List (Int × Int)) (ra : Option Addr) (rc : Nat) (ast : Int) (l : List Ta) (sa : Option Addr) (sc : Nat) (mn mx : Int) (z : Bool) (ix : Int) (nm : ByteArray) (w : World) (hy : RT w (Fr B [] w) y) (hB : B ≤ w.heap.size) (hal : allB y.tr = true) (hm : mx < 0) (h0 : (mn == 0) = false) (hmn : 0 ≤ mn) (hmn1 : mn ≤ 1000) (hsz : ((mn - 1).toNat + 1) * (putT y.tr).length ≤ 1000000) :
    Calls Try.prog 43 #[y.val, (Ta.mk k r ra rc ast l sa sc mn mx z ix nm).val] w fun e w' => ∃ u : Ta, e = .returned u.val ∧ u.tr = row (repsT (putT y.tr) (mn - 1).toNat ++ putT (repT y.tr 1 (-1) z)) ∧ RT w' (Fr B [] w') u ∧ Below w.heap.size w w' := by
  have hus := us_start B y (Ta.mk k r ra rc ast l sa sc mn mx z ix nm) w hy hB rfl
  obtain ⟨nn, hnn⟩ : ∃ nn : Nat, mn - 1 = (nn : Int) := ⟨(mn - 1).toNat, by simp at h0; omega⟩
  have hnt : (mn - 1).toNat = nn := by omega
  rw [hnt] at hsz ⊢
  clear hnt hy
  have HUS := Lib.hid hus
  clear hus
  cases y with
  | mk k' r' ra' rc' a' l' sa' sc' n' m' z' i' s' =>
  simp only [Ta.vals] at HUS
  simp only [Ta.val, Ta.vals]
  have t4 : ((((w.alloc (.cells #[.int .i64 k', .slice ra' r'.length rc', .int .i64 a', .slice sa' l'.length sc', .int .i64 n', .int .i64 m', .bool z', .int .i64 i', .string s'] 25)).alloc (.cells #[.int .i64 k, .slice ra r.length rc, .int .i64 ast, .slice sa l.length sc, .int .i64 mn, .int .i64 mx, .bool z, .int .i64 ix, .string nm] 25)).alloc (.cells #[.int .i64 0, .slice none 0 0, .int .i64 0, .slice none 0 0, .int .i64 0, .int .i64 0, .bool false, .int .i64 0, .string ⟨#[]⟩] 25)).alloc (.cells #[.slice none 0 0] 76)).cell? ⟨w.heap.size + 1, 4, none⟩ = some (.int .i64 mn) := HUS.out.tb.cell 4
  have t5 : ((((w.alloc (.cells #[.int .i64 k', .slice ra' r'.length rc', .int .i64 a', .slice sa' l'.length sc', .int .i64 n', .int .i64 m', .bool z', .int .i64 i', .string s'] 25)).alloc (.cells #[.int .i64 k, .slice ra r.length rc, .int .i64 ast, .slice sa l.length sc, .int .i64 mn, .int .i64 mx, .bool z, .int .i64 ix, .string nm] 25)).alloc (.cells #[.int .i64 0, .slice none 0 0, .int .i64 0, .slice none 0 0, .int .i64 0, .int .i64 0, .bool false, .int .i64 0, .string ⟨#[]⟩] 25)).alloc (.cells #[.slice none 0 0] 76)).cell? ⟨w.heap.size + 1, 5, none⟩ = some (.int .i64 mx) := HUS.out.tb.cell 5
  go_enter Try.func43, Try.ntmps43
  go_wp2_with fail
  generalize ((((w.alloc (.cells #[.int .i64 k', .slice ra' r'.length rc', .int .i64 a', .slice sa' l'.length sc', .int .i64 n', .int .i64 m', .bool z', .int .i64 i', .string s'] 25)).alloc (.cells #[.int .i64 k, .slice ra r.length rc, .int .i64 ast, .slice sa l.length sc, .int .i64 mn, .int .i64 mx, .bool z, .int .i64 ix, .string nm] 25)).alloc (.cells #[.int .i64 0, .slice none 0 0, .int .i64 0, .slice none 0 0, .int .i64 0, .int .i64 0, .bool false, .int .i64 0, .string ⟨#[]⟩] 25)).alloc (.cells #[.slice none 0 0] 76)) = w4 at *
  have HAL := Lib.hid hal
  have HSZ := Lib.hid hsz
  clear t4 t5 hal hsz
  go_loopw [56] (fun iv wr => ∃ (j : Nat) (v : Value) (us : List Ta), j ≤ nn ∧ iv = .int .i64 (j : Int) ∧ trs us = repsT (putT (Ta.mk k' r' ra' rc' a' l' sa' sc' n' m' z' i' s').tr) j ∧ US B [] w (Ta.mk k' r' ra' rc' a' l' sa' sc' n' m' z' i' s') (Ta.mk k r ra rc ast l sa sc mn mx z ix nm) v us wr) (fun iv _ => nn - (intOf iv).toNat)
  case atStart => exact ⟨0, _, [], Nat.zero_le _, rfl, rfl, HUS.out⟩
  case round =>
    obtain ⟨j, v, us, hj, rfl, htu, hr⟩ := hrel
    have HR := Lib.hid hr
    have HTU := Lib.hid htu
    have HLN := Lib.hid (show us.length ≤ 1000000 from by rw [← trs_length, HTU.out, reps_len]; exact Nat.le_trans (Nat.mul_le_mul_right _ (show j ≤ nn + 1 by omega)) HSZ.out)
    clear hr htu
    by_cases hlt : j < nn
    · have hlt2 : (j : Int) < mn - 1 := by omega
      have y0 : wr.cell? ⟨w.heap.size, 0, none⟩ = some (.int .i64 k') := HR.out.yb.cell 0
      have y1 : wr.cell? ⟨w.heap.size, 1, none⟩ = some (.slice ra' r'.length rc') := HR.out.yb.cell 1
      have y2 : wr.cell? ⟨w.heap.size, 2, none⟩ = some (.int .i64 a') := HR.out.yb.cell 2
      have y3 : wr.cell? ⟨w.heap.size, 3, none⟩ = some (.slice sa' l'.length sc') := HR.out.yb.cell 3
      have y4 : wr.cell? ⟨w.heap.size, 4, none⟩ = some (.int .i64 n') := HR.out.yb.cell 4
      have y5 : wr.cell? ⟨w.heap.size, 5, none⟩ = some (.int .i64 m') := HR.out.yb.cell 5
      have y6 : wr.cell? ⟨w.heap.size, 6, none⟩ = some (.bool z') := HR.out.yb.cell 6
      have y7 : wr.cell? ⟨w.heap.size, 7, none⟩ = some (.int .i64 i') := HR.out.yb.cell 7
      have y8 : wr.cell? ⟨w.heap.size, 8, none⟩ = some (.string s') := HR.out.yb.cell 8
      go_wp2_with fail
      refine (copied_any (Ta.mk k' r' ra' rc' a' l' sa' sc' n' m' z' i' s') (Fr B (((w.heap.size + 1 + 1) :: []) ++ (w.heap.size + 1 + 1 + 1) :: v.ownBlock.toList) wr) wr HR.out.yt (fun b hb => hb.2.1)).mono ?_
      rintro e w5 ⟨u5, rfl, htr5, hrt5, hb5⟩
      have HR5 := Lib.hid (HR.out.bel hb5)
      have HRT5 := Lib.hid (hrt5.fr_in (B := B) (L := ((w.heap.size + 1 + 1) :: []) ++ (w.heap.size + 1 + 1 + 1) :: v.ownBlock.toList) (Nat.le_trans hB HR.out.below.size) (us_lt HR.out))
      have HTR := Lib.hid htr5
      have HB5 := Lib.hid hb5
      clear htr5 hrt5 hb5
      clear y0 y1 y2 y3 y4 y5 y6 y7 y8
      simp only []
      go_wp2_with fail
      refine (put_any B (w.heap.size + 1 + 1 + 1 + 1) ((w.heap.size + 1 + 1) :: []) (w.heap.size + 1 + 1 + 1) v us u5 w5 HR5.out.row HRT5.out HR5.out.row.blk.lt (Nat.le_trans HLN.out (by decide)) (fun hk => by rw [Ta.subs_len, HTR.out]; rw [HTR.out] at hk; have := subs_pos HAL.out hk; omega)).mono ?_
      rintro e w6 ⟨rfl, v6, hrow6, hk6, hv6⟩
      have HR6 := Lib.hid (HR5.out.put hrow6 hk6 hv6)
      clear hrow6 hk6 hv6
      simp only []
      go_wp2_with fail
      go_roundw
      case rel => exact ⟨j + 1, _, _, by omega, by go_num, by rw [trs_append, putA_tr, HTU.out, HTR.out, reps_succ], HR6.out⟩
      case measure => simp [intOf]; omega
    · obtain rfl : j = nn := by omega
      have hlt2 : ¬ ((j : Int) < mn - 1) := by omega
      have y0 : wr.cell? ⟨w.heap.size, 0, none⟩ = some (.int .i64 k') := HR.out.yb.cell 0
      have y1 : wr.cell? ⟨w.heap.size, 1, none⟩ = some (.slice ra' r'.length rc') := HR.out.yb.cell 1
      have y2 : wr.cell? ⟨w.heap.size, 2, none⟩ = some (.int .i64 a') := HR.out.yb.cell 2
      have y3 : wr.cell? ⟨w.heap.size, 3, none⟩ = some (.slice sa' l'.length sc') := HR.out.yb.cell 3
      have y4 : wr.cell? ⟨w.heap.size, 4, none⟩ = some (.int .i64 n') := HR.out.yb.cell 4
      have y5 : wr.cell? ⟨w.heap.size, 5, none⟩ = some (.int .i64 m') := HR.out.yb.cell 5
      have y6 : wr.cell? ⟨w.heap.size, 6, none⟩ = some (.bool z') := HR.out.yb.cell 6
      have y7 : wr.cell? ⟨w.heap.size, 7, none⟩ = some (.int .i64 i') := HR.out.yb.cell 7
      have y8 : wr.cell? ⟨w.heap.size, 8, none⟩ = some (.string s') := HR.out.yb.cell 8
      have t6 : wr.cell? ⟨w.heap.size + 1, 6, none⟩ = some (.bool z) := HR.out.tb.cell 6
      go_wp2_with fail
      have hz : wr.cell? ⟨w.heap.size + 1, 6, none⟩ = some (.bool z) := HR.out.tb.cell 6
      refine (rep_any B ([w.heap.size + 1 + 1] ++ (w.heap.size + 1 + 1 + 1) :: v.ownBlock.toList) (Ta.mk k' r' ra' rc' a' l' sa' sc' n' m' z' i' s') (w.heap.size + 1) 1 (-1) z wr hz HR.out.yt (Nat.le_trans hB HR.out.below.size) (us_lt HR.out)).mono ?_
      rintro e w5 ⟨v5, rfl, htr5, hrt5, hb5⟩
      have HR5 := Lib.hid (HR.out.bel hb5)
      have HRT5 := Lib.hid hrt5
      have HTR := Lib.hid htr5
      clear htr5 hrt5 hb5 y0 y1 y2 y3 y4 y5 y6 y7 y8 t6 hz
      simp only []
      go_wp2_with fail
      refine (put_any B (w.heap.size + 1 + 1 + 1 + 1) [w.heap.size + 1 + 1] (w.heap.size + 1 + 1 + 1) v us v5 w5 HR5.out.row HRT5.out HR5.out.row.blk.lt (Nat.le_trans HLN.out (by decide)) (fun hk => by rw [HTR.out] at hk; simp [repT, Tr.kind] at hk)).mono ?_
      rintro e w6 ⟨rfl, v6, hrow6, hk6, hv6⟩
      have HR6 := Lib.hid (HR5.out.put hrow6 hk6 hv6)
      clear hrow6 hk6 hv6
      simp only []
      go_wp2_with fail
      have hl6 : (us ++ putA v5).length ≤ 1048576 := by rw [List.length_append, putA_len, HTR.out]; have := HLN.out; simp [putT, repT, Tr.kind]; omega
      refine (tree_any B (w.heap.size + 1 + 1 + 1 + 1) [w.heap.size + 1 + 1] (w.heap.size + 1 + 1 + 1) v6 (us ++ putA v5) w6 HR6.out.row (by omega) (by intro x hx; simp at hx; omega) hl6).mono ?_
      rintro e w7 ⟨u7, rfl, htr7, hrt7, hb7⟩
      have HR7 := Lib.hid (HR6.out.bel hb7)
      have HRT7 := Lib.hid hrt7
      have HTR7 := Lib.hid (htr7.trans (by rw [trs_append, putA_tr, HTR.out, HTU.out]))
      clear hrt7 htr7 hb7 hl6
      cases u7 with
      | mk k2 r2 ra2 rc2 a2 l2 sa2 sc2 n2 m2 z2 i2 s2 =>
      have q0 : w7.cell? ⟨w.heap.size + 1 + 1, 0, none⟩ = some (.int .i64 0) := HR7.out.res.cell 0
      have q1 : w7.cell? ⟨w.heap.size + 1 + 1, 1, none⟩ = some (.slice none 0 0) := HR7.out.res.cell 1
      have q2 : w7.cell? ⟨w.heap.size + 1 + 1, 2, none⟩ = some (.int .i64 0) := HR7.out.res.cell 2
      have q3 : w7.cell? ⟨w.heap.size + 1 + 1, 3, none⟩ = some (.slice none 0 0) := HR7.out.res.cell 3
      have q4 : w7.cell? ⟨w.heap.size + 1 + 1, 4, none⟩ = some (.int .i64 0) := HR7.out.res.cell 4
      have q5 : w7.cell? ⟨w.heap.size + 1 + 1, 5, none⟩ = some (.int .i64 0) := HR7.out.res.cell 5
      have q6 : w7.cell? ⟨w.heap.size + 1 + 1, 6, none⟩ = some (.bool false) := HR7.out.res.cell 6
      have q7 : w7.cell? ⟨w.heap.size + 1 + 1, 7, none⟩ = some (.int .i64 0) := HR7.out.res.cell 7
      have q8 : w7.cell? ⟨w.heap.size + 1 + 1, 8, none⟩ = some (.string ⟨#[]⟩) := HR7.out.res.cell 8
      have fz0 := HR7.out.res.frozen 0
      have fz1 := HR7.out.res.frozen 1
      have fz2 := HR7.out.res.frozen 2
      have fz3 := HR7.out.res.frozen 3
      have fz4 := HR7.out.res.frozen 4
      have fz5 := HR7.out.res.frozen 5
      have fz6 := HR7.out.res.frozen 6
      have fz7 := HR7.out.res.frozen 7
      have fz8 := HR7.out.res.frozen 8
      have fz9 := HR7.out.res.lt
      simp only [Ta.val, Ta.vals]
      go_wp2_with fail
      refine bodyPost_ret (node_ret rfl _ _ (w.heap.size + 1 + 1) (Ta.mk k2 r2 ra2 rc2 a2 l2 sa2 sc2 n2 m2 z2 i2 s2) rfl (show Blk (((((((((w7.setCell ⟨w.heap.size + 1 + 1, 0, none⟩ (.int .i64 k2)).setCell ⟨w.heap.size + 1 + 1, 1, none⟩ (.slice ra2 r2.length rc2)).setCell ⟨w.heap.size + 1 + 1, 2, none⟩ (.int .i64 a2)).setCell ⟨w.heap.size + 1 + 1, 3, none⟩ (.slice sa2 l2.length sc2)).setCell ⟨w.heap.size + 1 + 1, 4, none⟩ (.int .i64 n2)).setCell ⟨w.heap.size + 1 + 1, 5, none⟩ (.int .i64 m2)).setCell ⟨w.heap.size + 1 + 1, 6, none⟩ (.bool z2)).setCell ⟨w.heap.size + 1 + 1, 7, none⟩ (.int .i64 i2)).setCell ⟨w.heap.size + 1 + 1, 8, none⟩ (.string s2)) (w.heap.size + 1 + 1) 25 (Ta.mk k2 r2 ra2 rc2 a2 l2 sa2 sc2 n2 m2 z2 i2 s2).vals from (((((((((HR7.out.res.set_ 0 (.int .i64 k2)).set_ 1 (.slice ra2 r2.length rc2)).set_ 2 (.int .i64 a2)).set_ 3 (.slice sa2 l2.length sc2)).set_ 4 (.int .i64 n2)).set_ 5 (.int .i64 m2)).set_ 6 (.bool z2)).set_ 7 (.int .i64 i2)).set_ 8 (.string s2)))) rfl ?_
      refine ⟨Ta.mk k2 r2 ra2 rc2 a2 l2 sa2 sc2 n2 m2 z2 i2 s2, rfl, HTR7.out, HRT7.out.fr_kept (kept9 w7 (w.heap.size + 1 + 1) 0 (.int .i64 k2) (.slice ra2 r2.length rc2) (.int .i64 a2) (.slice sa2 l2.length sc2) (.int .i64 n2) (.int .i64 m2) (.bool z2) (.int .i64 i2) (.string s2)) (by simp) (by simp), Below.kept HR7.out.below (kept9 w7 (w.heap.size + 1 + 1) 0 (.int .i64 k2) (.slice ra2 r2.length rc2) (.int .i64 a2) (.slice sa2 l2.length sc2) (.int .i64 n2) (.int .i64 m2) (.bool z2) (.int .i64 i2) (.string s2)) (by intro b hb; simp at hb; omega) HR7.out.below.size⟩
end Go.Proofs.Yteimpcjafgllpaa
