/- simplify.unfolded's closure repeat. -/
import Derived.Test.YtfgelkfnbohmmaaP09
import Derived.Test.YtfgelkfnbohmmaaP13
namespace Go.Proofs.Ytfgelkfnbohmmaa
open Go.RowKit Go.Proofs.Ytfgelkfnbohmmaa.Tr
set_option maxRecDepth 100000 in
set_option maxHeartbeats 2000000 in
theorem rep_any (B : Nat) (L : List Nat) (u : Ta) (b : Nat) (mn mx : Int) (z : Bool) (w : World) (hz : w.cell? ⟨b, 6, none⟩ = some (.bool z)) (hu : RT w (Fr B L w) u) (hB : B ≤ w.heap.size) (hL : ∀ x ∈ L, x < w.heap.size) :
    Calls Try.prog 86 #[u.val, .int .i64 mn, .int .i64 mx, .pointer (some ⟨b, 0, none⟩)] w fun e w' => ∃ v : Ta, e = .returned v.val ∧ v.tr = repT u.tr mn mx z ∧ RT w' (Fr B L w') v ∧ Below w.heap.size w w' := by
  have hb2 := two_below w (.cells u.vals.toArray 25) (.cells #[.int .i64 0, .slice none 0 0, .int .i64 0, .slice none 0 0, .int .i64 0, .int .i64 0, .bool false, .int .i64 0, .string ⟨#[]⟩] 25)
  have hbl := World.block_lt_of_cell? w _ hz
  have hz2 : ((w.alloc (.cells u.vals.toArray 25)).alloc (.cells #[.int .i64 0, .slice none 0 0, .int .i64 0, .slice none 0 0, .int .i64 0, .int .i64 0, .bool false, .int .i64 0, .string ⟨#[]⟩] 25)).cell? ⟨b, 6, none⟩ = some (.bool z) := (hb2.cell (p := ⟨b, 6, none⟩) hbl).trans hz
  have HU := Lib.hid hu
  have HB2 := Lib.hid hb2
  have hbl2 : b < w.heap.size := hbl
  clear hu hb2 hz hbl
  cases u with
  | mk k' r' ra' rc' a' l' sa' sc' n' m' z' i' s' =>
  simp only [Ta.val, Ta.vals] at hz2 HB2 ⊢
  go_enter Try.func86, Try.ntmps86
  go_wp2_with fail
  have hb3 : Below w.heap.size w (((w.alloc (.cells #[.int .i64 k', .slice ra' r'.length rc', .int .i64 a', .slice sa' l'.length sc', .int .i64 n', .int .i64 m', .bool z', .int .i64 i', .string s'] 25)).alloc (.cells #[.int .i64 6, .slice none 0 0, .int .i64 0, .slice (some ⟨w.heap.size + 1 + 1, 0, none⟩) 1 1, .int .i64 mn, .int .i64 mx, .bool z, .int .i64 0, .string ⟨#[]⟩] 25)).alloc (.cells #[.int .i64 k', .slice ra' r'.length rc', .int .i64 a', .slice sa' l'.length sc', .int .i64 n', .int .i64 m', .bool z', .int .i64 i', .string s'] 25)) := (two_below w _ _).alloc (by simp; omega) _
  have hv : Blk (((w.alloc (.cells #[.int .i64 k', .slice ra' r'.length rc', .int .i64 a', .slice sa' l'.length sc', .int .i64 n', .int .i64 m', .bool z', .int .i64 i', .string s'] 25)).alloc (.cells #[.int .i64 6, .slice none 0 0, .int .i64 0, .slice (some ⟨w.heap.size + 1 + 1, 0, none⟩) 1 1, .int .i64 mn, .int .i64 mx, .bool z, .int .i64 0, .string ⟨#[]⟩] 25)).alloc (.cells #[.int .i64 k', .slice ra' r'.length rc', .int .i64 a', .slice sa' l'.length sc', .int .i64 n', .int .i64 m', .bool z', .int .i64 i', .string s'] 25)) (w.heap.size + 1) 25 [.int .i64 6, .slice none 0 0, .int .i64 0, .slice (some ⟨w.heap.size + 1 + 1, 0, none⟩) 1 1, .int .i64 mn, .int .i64 mx, .bool z, .int .i64 0, .string ⟨#[]⟩] := (two_blk w (.cells #[.int .i64 k', .slice ra' r'.length rc', .int .i64 a', .slice sa' l'.length sc', .int .i64 n', .int .i64 m', .bool z', .int .i64 i', .string s'] 25) 25 [.int .i64 6, .slice none 0 0, .int .i64 0, .slice (some ⟨w.heap.size + 1 + 1, 0, none⟩) 1 1, .int .i64 mn, .int .i64 mx, .bool z, .int .i64 0, .string ⟨#[]⟩]).alloc _
  have hs : Blk (((w.alloc (.cells #[.int .i64 k', .slice ra' r'.length rc', .int .i64 a', .slice sa' l'.length sc', .int .i64 n', .int .i64 m', .bool z', .int .i64 i', .string s'] 25)).alloc (.cells #[.int .i64 6, .slice none 0 0, .int .i64 0, .slice (some ⟨w.heap.size + 1 + 1, 0, none⟩) 1 1, .int .i64 mn, .int .i64 mx, .bool z, .int .i64 0, .string ⟨#[]⟩] 25)).alloc (.cells #[.int .i64 k', .slice ra' r'.length rc', .int .i64 a', .slice sa' l'.length sc', .int .i64 n', .int .i64 m', .bool z', .int .i64 i', .string s'] 25)) (w.heap.size + 1 + 1) 25 [.int .i64 k', .slice ra' r'.length rc', .int .i64 a', .slice sa' l'.length sc', .int .i64 n', .int .i64 m', .bool z', .int .i64 i', .string s'] := by
    have := Blk.new ((w.alloc (.cells #[.int .i64 k', .slice ra' r'.length rc', .int .i64 a', .slice sa' l'.length sc', .int .i64 n', .int .i64 m', .bool z', .int .i64 i', .string s'] 25)).alloc (.cells #[.int .i64 6, .slice none 0 0, .int .i64 0, .slice (some ⟨w.heap.size + 1 + 1, 0, none⟩) 1 1, .int .i64 mn, .int .i64 mx, .bool z, .int .i64 0, .string ⟨#[]⟩] 25)) 25 [.int .i64 k', .slice ra' r'.length rc', .int .i64 a', .slice sa' l'.length sc', .int .i64 n', .int .i64 m', .bool z', .int .i64 i', .string s']
    rwa [show ((w.alloc (.cells #[.int .i64 k', .slice ra' r'.length rc', .int .i64 a', .slice sa' l'.length sc', .int .i64 n', .int .i64 m', .bool z', .int .i64 i', .string s'] 25)).alloc (.cells #[.int .i64 6, .slice none 0 0, .int .i64 0, .slice (some ⟨w.heap.size + 1 + 1, 0, none⟩) 1 1, .int .i64 mn, .int .i64 mx, .bool z, .int .i64 0, .string ⟨#[]⟩] 25)).heap.size = w.heap.size + 1 + 1 from by simp] at this
  generalize ((w.alloc (.cells #[.int .i64 k', .slice ra' r'.length rc', .int .i64 a', .slice sa' l'.length sc', .int .i64 n', .int .i64 m', .bool z', .int .i64 i', .string s'] 25)).alloc (.cells #[.int .i64 6, .slice none 0 0, .int .i64 0, .slice (some ⟨w.heap.size + 1 + 1, 0, none⟩) 1 1, .int .i64 mn, .int .i64 mx, .bool z, .int .i64 0, .string ⟨#[]⟩] 25)).alloc (.cells #[.int .i64 k', .slice ra' r'.length rc', .int .i64 a', .slice sa' l'.length sc', .int .i64 n', .int .i64 m', .bool z', .int .i64 i', .string s'] 25) = wf at *
  refine bodyPost_ret (node_ret rfl _ _ (w.heap.size + 1) (Ta.mk 6 [] none 0 0 [Ta.mk k' r' ra' rc' a' l' sa' sc' n' m' z' i' s'] (some ⟨w.heap.size + 1 + 1, 0, none⟩) 1 mn mx z 0 ⟨#[]⟩) rfl hv) rfl ?_
  refine ⟨_, rfl, rfl, RT.of ⟨RdA.none_, by simp, by simp, by decide⟩ ?_ ?_, hb3⟩
  · refine ⟨Nat.le_refl _, by decide, rfl, (fun h => by cases h), fun _ => ⟨w.heap.size + 1 + 1, 0, rfl, ⟨by omega, hs.lt, fun hm => by have := hL _ hm; omega⟩, fun j v hj => ?_⟩⟩
    rw [Nat.zero_add, hs.cell]
    simpa [rowT, Ta.vals] using hj
  · intro v hv
    simp only [List.mem_singleton] at hv
    subst hv
    exact HU.out.fr_below hb3
end Go.Proofs.Ytfgelkfnbohmmaa
namespace Go.Proofs.Ytfgelkfnbohmmaa
open Go.RowKit Go.Proofs.Ytfgelkfnbohmmaa.Tr
/-- Rows of one row, so many times. -/
def repsT (p : List Tr.Tr) (j : Nat) : List Tr.Tr := (List.replicate j p).flatten
theorem reps_zero (p : List Tr.Tr) : repsT p 0 = [] := rfl
theorem reps_succ (p : List Tr.Tr) (j : Nat) : repsT p (j + 1) = repsT p j ++ p := by
  unfold repsT
  rw [List.replicate_succ', List.flatten_append]
  simp
theorem reps_len (p : List Tr.Tr) (j : Nat) : (repsT p j).length = j * p.length := by
  induction j with
  | zero => simp [reps_zero]
  | succ j ih => rw [reps_succ, List.length_append, ih, Nat.succ_mul]
theorem len_sizes (l : List Tr.Tr) : l.length ≤ sizes l := by
  induction l with
  | nil => simp
  | cons t l ih => have := size_pos t; rw [sizes, List.length_cons]; omega
theorem row_len (l : List Tr.Tr) : l.length ≤ size (row l) := by
  match l with
  | [] => simp
  | [x] => simp [row]; exact size_pos x
  | x :: y :: l =>
    have := len_sizes (x :: y :: l)
    rw [show row (x :: y :: l) = catT (x :: y :: l) from rfl, catT, size]
    omega
theorem subs_pos {t : Tr.Tr} (h : allB t = true) (hk : t.kind = 4) : 2 ≤ t.subs.length := by
  cases kinds h with
  | cat l hc hs => exact hc
  | empty => simp [emptyT, Tr.kind] at hk
  | cls r hr => simp [Tr.kind] at hk
  | ass a ha => simp [Tr.kind] at hk
  | alt l hc hs => simp [altT, Tr.kind] at hk
  | rep x n m z hx h0 hb hm => simp [repT, Tr.kind] at hk
  | group x i s hx h0 hb hm => simp [groupT, Tr.kind] at hk
theorem Ta.subs_len (t : Ta) : t.subs.length = t.tr.subs.length := by rw [Ta.tr_subs, List.length_map]
theorem putA_len (t : Ta) : (putA t).length = (putT t.tr).length := by rw [← putA_tr, trs_length]
theorem trs_append (a b : List Ta) : trs (a ++ b) = trs a ++ trs b := by rw [trs_map, trs_map, trs_map, List.map_append]
/-- What stands while a repeat is unfolded. -/
structure US (B : Nat) (X : List Nat) (w : World) (y t : Ta) (v : Value) (us : List Ta) (wr : World) : Prop where
  below : Below w.heap.size w wr
  yb : Blk wr w.heap.size 25 y.vals
  tb : Blk wr (w.heap.size + 1) 25 t.vals
  res : Blk wr (w.heap.size + 1 + 1) 25 [.int .i64 0, .slice none 0 0, .int .i64 0, .slice none 0 0, .int .i64 0, .int .i64 0, .bool false, .int .i64 0, .string ⟨#[]⟩]
  row : RowV B (w.heap.size + 1 + 1 + 1 + 1) ((w.heap.size + 1 + 1) :: X) (w.heap.size + 1 + 1 + 1) 122 f1 v us wr
  yt : RT wr (Fr B (((w.heap.size + 1 + 1) :: X) ++ (w.heap.size + 1 + 1 + 1) :: v.ownBlock.toList) wr) y
  xs : ∀ x ∈ X, w.heap.size + 1 + 1 + 1 < x ∧ x < wr.heap.size ∧ v.ownBlock ≠ some x
section
variable {B : Nat} {X : List Nat} {w : World} {y t : Ta} {v : Value} {us : List Ta} {wr wq : World}
theorem US.own_ge (h : US B X w y t v us wr) (g : Nat) (hg : v.ownBlock = some g) : w.heap.size + 1 + 1 + 1 < g ∧ g < wr.heap.size := by
  have := h.row.own.lt g hg; omega
theorem US.bel (h : US B X w y t v us wr) (hb : Below wr.heap.size wr wq) : US B X w y t v us wq :=
  ⟨h.below.trans (hb.mono h.below.size), h.yb.below hb h.yb.lt, h.tb.below hb h.tb.lt, h.res.below hb h.res.lt,
   ⟨h.row.blk.below hb h.row.blk.lt, own_below h.row.own hb, fun u hu => (h.row.els u hu).fr_below hb, h.row.sep⟩, h.yt.fr_below hb, fun x hx => ⟨(h.xs x hx).1, Nat.lt_of_lt_of_le (h.xs x hx).2.1 hb.size, (h.xs x hx).2.2⟩⟩
theorem US.put (h : US B X w y t v us wr) {v' : Value} {us' : List Ta} (hr : RowV B (w.heap.size + 1 + 1 + 1 + 1) ((w.heap.size + 1 + 1) :: X) (w.heap.size + 1 + 1 + 1) 122 f1 v' us' wq) (hk : Kept wr wq ((w.heap.size + 1 + 1 + 1) :: v.ownBlock.toList)) (hv : v'.ownBlock = v.ownBlock ∨ ∃ g, v'.ownBlock = some g ∧ wr.heap.size ≤ g) : US B X w y t v' us' wq := by
  have hB3 := h.row.blk.lt
  have hge : ∀ x ∈ (w.heap.size + 1 + 1 + 1) :: v.ownBlock.toList, w.heap.size + 1 + 1 < x := fun x hx => by
    rcases List.mem_cons.1 hx with rfl | hx
    · omega
    · have := h.own_ge x (by simpa using hx); omega
  refine ⟨Below.kept h.below hk (fun x hx => by have := hge x hx; omega) h.below.size, h.yb.kept hk (fun hm => by have := hge _ hm; omega), h.tb.kept hk (fun hm => by have := hge _ hm; omega), h.res.kept hk (fun hm => by have := hge _ hm; omega), hr, ?_, ?_⟩
  · refine h.yt.fr_kept hk (fun x hx => .inl (List.mem_append_right _ hx)) fun x hx => ?_
    rcases List.mem_append.1 hx with hx | hx
    · exact .inl (List.mem_append_left _ hx)
    · rcases List.mem_cons.1 hx with rfl | hx
      · exact .inl (by simp)
      · rcases hv with e | ⟨g, e, hg⟩
        · rw [e] at hx; exact .inl (List.mem_append_right _ (List.mem_cons_of_mem _ hx))
        · rw [e] at hx
          simp at hx
          subst hx
          exact .inr (.inl hg)
  · intro x hx
    obtain ⟨h1, h2, h3⟩ := h.xs x hx
    refine ⟨h1, Nat.lt_of_lt_of_le h2 hk.size, ?_⟩
    rcases hv with e | ⟨g, e, hg⟩
    · rw [e]; exact h3
    · rw [e]; intro e2; simp at e2; omega
/-- A block of X is written. -/
theorem US.setb (h : US B X w y t v us wr) {g : Nat} (hg : g ∈ X) (hk : Kept wr wq [g]) : US B X w y t v us wq := by
  obtain ⟨h1, h2, h3⟩ := h.xs g hg
  have hM : ∀ b ∈ [g], b ∈ ((w.heap.size + 1 + 1) :: X) ++ (w.heap.size + 1 + 1 + 1) :: v.ownBlock.toList ∨ wr.heap.size ≤ b ∨ b < B := fun b hb => by
    simp at hb; subst hb; exact .inl (List.mem_append_left _ (List.mem_cons_of_mem _ hg))
  refine ⟨Below.kept h.below hk (fun x hx => by simp at hx; omega) h.below.size, h.yb.kept hk (by simp; omega), h.tb.kept hk (by simp; omega), h.res.kept hk (by simp; omega), ⟨h.row.blk.kept hk (by simp; omega), own_kept h.row.own hk (fun b hb hm => by simp at hm; subst hm; exact h3 hb), fun u hu => (h.row.els u hu).fr_kept hk hM (fun b hb => .inl hb), h.row.sep⟩, h.yt.fr_kept hk hM (fun b hb => .inl hb), fun x hx => ?_⟩
  obtain ⟨g1, g2, g3⟩ := h.xs x hx
  exact ⟨g1, Nat.lt_of_lt_of_le g2 hk.size, g3⟩
theorem US.more (h : US B [] w y t v us wr) {g : Nat} (hb : Below wr.heap.size wr wq) (hg : wr.heap.size ≤ g) (hq : g < wq.heap.size) : US B [g] w y t v us wq := by
  have hq2 := h.bel hb
  have hB3 := h.row.blk.lt
  have hL : ∀ b ∈ [w.heap.size + 1 + 1, g] ++ (w.heap.size + 1 + 1 + 1) :: v.ownBlock.toList, b ∈ [w.heap.size + 1 + 1] ++ (w.heap.size + 1 + 1 + 1) :: v.ownBlock.toList ∨ wr.heap.size ≤ b ∨ b < B := fun b hb => by
    rcases List.mem_append.1 hb with hb | hb
    · simp at hb
      rcases hb with rfl | rfl
      · exact .inl (by simp)
      · exact .inr (.inl hg)
    · exact .inl (List.mem_append_right _ hb)
  refine ⟨hq2.below, hq2.yb, hq2.tb, hq2.res, ⟨hq2.row.blk, hq2.row.own, fun u hu => (h.row.els u hu).fr_kept (Kept.of_below (L := []) hb) (by simp) hL, h.row.sep⟩, h.yt.fr_kept (Kept.of_below (L := []) hb) (by simp) hL, fun x hx => ?_⟩
  simp at hx
  subst hx
  refine ⟨by omega, hq, fun e => ?_⟩
  have := h.own_ge x e
  omega
theorem US.less (h : US B X w y t v us wr) : US B [] w y t v us wr :=
  ⟨h.below, h.yb, h.tb, h.res, ⟨h.row.blk, h.row.own, fun u hu => (h.row.els u hu).fr_less (fun b hb => (by simp at hb ⊢; rcases hb with h | h; exact .inl h; exact .inr (.inr h))), h.row.sep⟩, h.yt.fr_less (fun b hb => (by simp at hb ⊢; rcases hb with h | h; exact .inl h; exact .inr (.inr h))), by simp⟩
end
theorem us_lt {B : Nat} {X : List Nat} {w : World} {y t : Ta} {v : Value} {us : List Ta} {wr : World} (h : US B X w y t v us wr) : ∀ x ∈ ((w.heap.size + 1 + 1) :: X) ++ (w.heap.size + 1 + 1 + 1) :: v.ownBlock.toList, x < wr.heap.size := fun x hx => by
  have hb := h.row.blk.lt
  rcases List.mem_append.1 hx with hx | hx
  · rcases List.mem_cons.1 hx with rfl | hx
    · omega
    · exact (h.xs x hx).2.1
  · rcases List.mem_cons.1 hx with rfl | hx
    · exact hb
    · exact (h.own_ge x (by simpa using hx)).2
theorem us_start (B : Nat) (y t : Ta) (w : World) (hy : RT w (Fr B [] w) y) (hB : B ≤ w.heap.size) {W : World} (hW : W = ((((w.alloc (.cells y.vals.toArray 25)).alloc (.cells t.vals.toArray 25)).alloc (.cells #[.int .i64 0, .slice none 0 0, .int .i64 0, .slice none 0 0, .int .i64 0, .int .i64 0, .bool false, .int .i64 0, .string ⟨#[]⟩] 25)).alloc (.cells #[.slice none 0 0] 122))) : US B [] w y t (.slice none 0 0) [] W := by
  have e2 : ((w.alloc (.cells y.vals.toArray 25)).alloc (.cells t.vals.toArray 25)).heap.size = w.heap.size + 1 + 1 := by simp
  have e3 : (((w.alloc (.cells y.vals.toArray 25)).alloc (.cells t.vals.toArray 25)).alloc (.cells #[.int .i64 0, .slice none 0 0, .int .i64 0, .slice none 0 0, .int .i64 0, .int .i64 0, .bool false, .int .i64 0, .string ⟨#[]⟩] 25)).heap.size = w.heap.size + 1 + 1 + 1 := by simp
  have hb3 : Below w.heap.size w (((w.alloc (.cells y.vals.toArray 25)).alloc (.cells t.vals.toArray 25)).alloc (.cells #[.int .i64 0, .slice none 0 0, .int .i64 0, .slice none 0 0, .int .i64 0, .int .i64 0, .bool false, .int .i64 0, .string ⟨#[]⟩] 25)) := (two_below w _ _).alloc (by rw [e2]; omega) _
  have hb : Below w.heap.size w W := hW ▸ hb3.alloc (by rw [e3]; omega) _
  have h2 := Blk.new ((w.alloc (.cells y.vals.toArray 25)).alloc (.cells t.vals.toArray 25)) 25 [.int .i64 0, .slice none 0 0, .int .i64 0, .slice none 0 0, .int .i64 0, .int .i64 0, .bool false, .int .i64 0, .string ⟨#[]⟩]
  rw [e2] at h2
  have h3 := Blk.new (((w.alloc (.cells y.vals.toArray 25)).alloc (.cells t.vals.toArray 25)).alloc (.cells #[.int .i64 0, .slice none 0 0, .int .i64 0, .slice none 0 0, .int .i64 0, .int .i64 0, .bool false, .int .i64 0, .string ⟨#[]⟩] 25)) 122 [.slice none 0 0]
  rw [e3] at h3
  refine ⟨hb, ?_, ?_, ?_, ⟨?_, World.ownsRow_nil _ _ _ _, by simp, by simp [Value.ownBlock]⟩, ?_, by simp⟩
  · rw [hW]; exact (((Blk.new w 25 y.vals).alloc _).alloc _).alloc _
  · rw [hW]; exact ((two_blk w _ 25 t.vals).alloc _).alloc _
  · rw [hW]; exact h2.alloc _
  · rw [hW]; exact h3
  · exact hy.fr_kept (Kept.of_below (L := []) hb) (by simp) (by simp [Value.ownBlock]; omega)
end Go.Proofs.Ytfgelkfnbohmmaa
