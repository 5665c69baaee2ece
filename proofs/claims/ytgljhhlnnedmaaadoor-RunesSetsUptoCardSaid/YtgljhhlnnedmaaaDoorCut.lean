/- runes.Cut -/
import Derived.Test.YtgljhhlnnedmaaaDoorDecode
import Derived.Test.YtgljhhlnnedmaaaDoorDecPlain
namespace Go.Proofs.YtgljhhlnnedmaaaDoor
open Go.RowKit

/-- After i runes: the place, the runes, where each began. -/
def cutSt (bs : List Int) : Nat → Nat × List Int × List Int
  | 0 => (0, [], [])
  | i + 1 => let s := cutSt bs i; if s.1 < bs.length then (s.1 + (dec (bs.drop s.1)).2.toNat, s.2.1 ++ [(dec (bs.drop s.1)).1], s.2.2 ++ [(s.1 : Int)]) else s

theorem decAt_n {k : Nat} {b0 : Int} {r : List Int} (hk : k < 9) : 1 ≤ (decAt k b0 r).2 ∧ (decAt k b0 r).2 ≤ r.length + 1 := by
  have hb := lead_bounds k hk
  unfold decAt
  split
  · simp only []; omega
  match r with
  | [] => simp
  | b1 :: r1 =>
    simp only []
    split
    · simp only [List.length_cons]; omega
    split
    · split <;> (simp only [List.length_cons]; omega)
    match r1 with
    | [] => simp
    | b2 :: r2 =>
      simp only []
      split
      · split <;> (simp only [List.length_cons]; omega)
      match r2 with
      | [] => simp
      | b3 :: r3 => simp only []; split <;> (simp only [List.length_cons]; omega)
theorem dec_n {bs : List Int} (h : 0 < bs.length) : 1 ≤ (dec bs).2 ∧ (dec bs).2 ≤ bs.length := by
  match bs, h with
  | a :: r, _ =>
    simp only [dec]
    cases hf : (List.range 9).find? (fits · a) with
    | none => simp only [List.length_cons]; omega
    | some k =>
      have hk : k < 9 := by have := List.mem_of_find?_eq_some hf; simpa using this
      have := decAt_n (k := k) (b0 := a) (r := r) hk
      simp only [List.length_cons]; omega

theorem cutSt_step {bs : List Int} {i : Nat} (h : (cutSt bs i).1 < bs.length) :
    cutSt bs (i + 1) = ((cutSt bs i).1 + (dec (bs.drop (cutSt bs i).1)).2.toNat, (cutSt bs i).2.1 ++ [(dec (bs.drop (cutSt bs i).1)).1], (cutSt bs i).2.2 ++ [((cutSt bs i).1 : Int)]) := by
  rw [cutSt]; simp only [if_pos h]
theorem cutSt_stay {bs : List Int} {i : Nat} (h : ¬ (cutSt bs i).1 < bs.length) : cutSt bs (i + 1) = cutSt bs i := by
  rw [cutSt]; simp only [if_neg h]
theorem cutSt_bd (bs : List Int) (i : Nat) : (cutSt bs i).1 ≤ bs.length ∧ (i ≤ (cutSt bs i).1 ∨ (cutSt bs i).1 = bs.length) ∧ (cutSt bs i).2.1.length = (cutSt bs i).2.2.length ∧ (cutSt bs i).2.1.length ≤ (cutSt bs i).1 := by
  induction i with
  | zero => simp [cutSt]
  | succ i ih =>
    by_cases h : (cutSt bs i).1 < bs.length
    · rw [cutSt_step h]
      have hd := dec_n (bs := bs.drop (cutSt bs i).1) (by rw [List.length_drop]; omega)
      rw [List.length_drop] at hd
      simp only [List.length_append, List.length_cons, List.length_nil]
      omega
    · rw [cutSt_stay h]
      omega
theorem cutSt_end {bs : List Int} {i : Nat} (h : ¬ (cutSt bs i).1 < bs.length) : ∀ j, i ≤ j → cutSt bs j = cutSt bs i := by
  intro j hj
  induction j with
  | zero => rw [show i = 0 from by omega]
  | succ j ih =>
    rcases Nat.lt_or_ge i (j + 1) with h1 | h1
    · have := ih (by omega)
      rw [cutSt_stay (by rw [this]; exact h), this]
    · rw [show i = j + 1 from by omega]
/-- The runes of bytes, and the places between them. -/
def cutRunes (bs : List Int) : List Int := (cutSt bs bs.length).2.1
def cutPlaces (bs : List Int) : List Int := (cutSt bs bs.length).2.2 ++ [(bs.length : Int)]
theorem cut_done {bs : List Int} {i : Nat} (hi : i ≤ (cutSt bs i).1) (h : ¬ (cutSt bs i).1 < bs.length) : (cutSt bs i).2.1 = cutRunes bs ∧ (cutSt bs i).2.2 ++ [((cutSt bs i).1 : Int)] = cutPlaces bs := by
  have hb := (cutSt_bd bs i).1
  have e := cutSt_end h bs.length (by omega)
  unfold cutRunes cutPlaces
  rw [e, show (cutSt bs i).1 = bs.length from by omega]
  exact ⟨rfl, rfl⟩

theorem LeadsIn.below {w w' : World} {B : Nat} (h : LeadsIn w) (hb : Below B w w') (hg : 0 < B) : LeadsIn w' := by
  obtain ⟨t, fr, h⟩ := h
  exact ⟨t, fr, (hb.block _ hg).trans h⟩

theorem int_info : (Tryd.prog.info? 3).map (fun i => (i.zero, i.size, i.bytes)) = some (some (.int .i64 0), 1, 8) := by kernel_rfl

set_option maxHeartbeats 1000000 in
theorem cut_any (A : Option Addr) (n c : Nat) (bs : List Int) (w : World) (hr : Reads w w.heap.size 1 A n c (bs.map (Value.int .u8))) (hbs : ∀ b ∈ bs, 0 ≤ b ∧ b ≤ 255) (hL : LeadsIn w) (hn : n ≤ 4194304)
    (hg0 : 0 < w.heap.size) :
    Calls Tryd.prog 13 #[.slice A n c] w fun e w' => ∃ u v, e = .returned (.tuple #[u, v]) ∧ w'.ownsRow w.heap.size 3 1 u (cutRunes bs).length ((cutRunes bs).map (Value.int .i64)) ∧
      w'.ownsRow w.heap.size 3 1 v (cutPlaces bs).length ((cutPlaces bs).map (Value.int .i64)) ∧ Apart u v ∧ Below w.heap.size w w' := by
  obtain ⟨i0, hi, hz0, hz1, hz2⟩ := info_parts int_info
  obtain ⟨B, hB⟩ : ∃ B, B = w.heap.size := ⟨_, rfl⟩
  rw [← hB] at hr
  rw [← hB]
  have hBs : B ≤ w.heap.size := by omega
  have HB := Lib.hid hB
  have hlen := hr.len
  simp only [List.length_map, Nat.mul_one] at hlen
  have HLEN := Lib.hid hlen
  have HBS := Lib.hid hbs
  have hnc := hr.le
  have hcap := hr.cap
  clear hB hlen hbs
  go_enter Tryd.func13, Tryd.ntmps13
  go_wp2_with fail
  go_loopw [4, 5, 6] (fun u v p wr => ∃ i : Nat, p = .int .i64 ((cutSt bs i).1 : Int) ∧ i ≤ (cutSt bs i).1 ∧ wr.ownsRow B 3 1 u (cutSt bs i).2.1.length ((cutSt bs i).2.1.map (Value.int .i64)) ∧
      wr.ownsRow B 3 1 v ((cutSt bs i).2.2 ++ [((cutSt bs i).1 : Int)]).length (((cutSt bs i).2.2 ++ [((cutSt bs i).1 : Int)]).map (Value.int .i64)) ∧ Apart u v ∧ Below B w wr) (fun _ _ p _ => n - (intOf p).toNat)
  case atStart => exact ⟨0, rfl, Nat.le_refl _, World.ownsRow_nil _ _ _ _, own_lit _ _ _ 1 _ _ _ hBs rfl rfl (by decide), .inl rfl, (Below.refl _ _).alloc hBs _⟩
  case round =>
    obtain ⟨i, rfl, hii, hou, hov, hap, hbel⟩ := hrel
    have hbd := cutSt_bd bs i
    obtain ⟨p, hp⟩ : ∃ p, p = (cutSt bs i).1 := ⟨_, rfl⟩
    have HP := Lib.hid hp
    rw [← hp] at hii hov hbd
    rw [← hp]
    clear hp
    have hpn : p ≤ n := by have := HLEN.out; omega
    have hszr : B ≤ wr.heap.size := by have := hbel.size; omega
    have hl1 : (cutSt bs i).2.1.length ≤ 4194304 := by omega
    have hl2 : (cutSt bs i).2.2.length ≤ 4194304 := by omega
    have HBD := Lib.hid hbd
    clear hbd
    by_cases hlt : p < n
    · have hdn := dec_n (bs := bs.drop p) (by rw [List.length_drop]; have := HLEN.out; omega)
      rw [List.length_drop] at hdn
      have hdn1 := hdn.1
      have hdn2 : (dec (bs.drop p)).2 ≤ (n : Int) - p := by have := HLEN.out; omega
      clear hdn
      have hrd : Reads wr wr.heap.size 1 (A.map (·.add p)) (n - p) (c - p) ((bs.drop p).map (Value.int .u8)) := by
        have := ((hr.below hbel).drop hpn).more hszr
        rw [if_neg (by omega), Nat.mul_one, ← List.map_drop] at this
        exact this
      have hdec := decode_any _ _ _ (bs.drop p) wr hrd (fun b hb => HBS.out b (List.mem_of_mem_drop hb)) (hL.below hbel (by rw [HB.out]; exact hg0))
      have HD := Lib.hid hdec
      have HR := Lib.hid hr
      clear hdec hrd hr
      have hcp : ¬ c = p := by omega
      obtain ⟨ru, hru⟩ : ∃ ru, ru = (cutSt bs i).2.1 := ⟨_, rfl⟩
      obtain ⟨st, hst⟩ : ∃ st, st = (cutSt bs i).2.2 := ⟨_, rfl⟩
      obtain ⟨d1, hd1⟩ : ∃ d, d = (dec (bs.drop p)).1 := ⟨_, rfl⟩
      obtain ⟨d2, hd2⟩ : ∃ d, d = (dec (bs.drop p)).2 := ⟨_, rfl⟩
      rw [← hru] at hou hl1
      rw [← hst] at hov hl2
      rw [← hd2] at hdn1 hdn2
      unfold DecodePost at HD
      rw [← hd1, ← hd2] at HD
      have HE := Lib.hid (show cutSt bs (i + 1) = (p + d2.toNat, ru ++ [d1], st ++ [(p : Int)]) from by
        rw [cutSt_step (by rw [← HP.out]; have := HLEN.out; omega), ← HP.out, ← hru, ← hst, ← hd1, ← hd2])
      clear hru hst hd1 hd2
      go_wp2_with fail
      refine HD.out.mono ?_
      rintro e w1 ⟨rfl, hb1⟩
      have hou1 := own_below hou hb1
      have hov1 := own_below hov hb1
      have hbel1 : Below B w w1 := hbel.trans (hb1.mono hszr)
      have hsz1 : B ≤ w1.heap.size := by have := hbel1.size; omega
      clear hb1 hou hov hbel HD
      go_wp2_with (first
        | (at_builtin; refine wpList_append_own_at _ rfl (.tmp 24) (.tmp 26) 29 rfl B 3 i0 (.int .i64 0) 1 8 Tryd.underlying29 hi hz0 hz1 hz2 rfl (by decide) u4 ru.length (ru.map (Value.int .i64)) rfl (hou1.alloc _) ⟨w1.heap.size, 0, none⟩ 1 1 [.int .i64 d1] rfl rfl (cell_one_new _ _ _) (by simp [Value.oneCell']) (by unfold maxLen; omega) (by omega) (by simp; omega) ?_; intro v2 w2 hou2 hg2 _ hat2; have hov2 := (hov1.alloc (.cells #[.int .i64 d1] 3)).kept hg2 (apart_symm hap); have hbel2 := (hbel1.alloc hsz1 (.cells #[.int .i64 d1] 3)).grown hg2 (by simp; omega) (fun k hk => (hou1.lt k hk).1); have hsz2 : B ≤ w2.heap.size := Nat.le_trans hBs hbel2.size)
        | (at_builtin; refine wpList_append_own_at _ rfl (.tmp 28) (.tmp 30) 29 rfl B 3 i0 (.int .i64 0) 1 8 Tryd.underlying29 hi hz0 hz1 hz2 rfl (by decide) u5 (st ++ [(p : Int)]).length ((st ++ [(p : Int)]).map (Value.int .i64)) rfl (hov2.alloc _) ⟨w2.heap.size, 0, none⟩ 1 1 [.int .i64 (p + d2)] rfl rfl (cell_one_new _ _ _) (by simp [Value.oneCell']) (by unfold maxLen; simp; omega) (by simp; omega) (by simp; omega) ?_; intro v3 w3 hov3 hg3 _ hat3)
        | fail)
      have hou3 := (hou2.alloc (.cells #[.int .i64 (p + d2)] 3)).kept hg3 (by
        have := apart_append (u := u5) (v := u4) (v' := v2) (apart_symm hap) (hov1.alloc (.cells #[.int .i64 d1] 3)) (by rcases hat2 with h | h; exact .inl h; exact .inr ⟨_, Nat.le_refl _, h⟩)
        exact apart_symm this)
      have hbel3 := (hbel2.alloc hsz2 (.cells #[.int .i64 (p + d2)] 3)).grown hg3 (by simp; omega) (fun k hk => (hov1.lt k hk).1)
      have hap3 : Apart v2 v3 := by
        have h2 := apart_append (u := u5) (v := u4) (v' := v2) (apart_symm hap) (hov1.alloc (.cells #[.int .i64 d1] 3)) (by rcases hat2 with h | h; exact .inl h; exact .inr ⟨_, Nat.le_refl _, h⟩)
        exact apart_append (apart_symm h2) (hou2.alloc (.cells #[.int .i64 (p + d2)] 3)) (by rcases hat3 with h | h; exact .inl h; exact .inr ⟨_, Nat.le_refl _, h⟩)
      go_wp2_with fail
      go_roundw
      case rel =>
        refine ⟨i + 1, ?_, ?_, ?_, ?_, hap3, hbel3⟩
        · rw [HE.out]; simp only []; go_num
        · rw [HE.out]; simp only []; omega
        · rw [HE.out]
          simpa using hou3
        · rw [HE.out]
          have e : ((p + d2.toNat : Nat) : Int) = p + d2 := by omega
          simpa [e] using hov3
      case measure => simp [intOf]; omega
    · go_wp2_with fail
      go_ret2
      have hpe := cut_done (bs := bs) (i := i) (by rw [← HP.out]; exact hii) (by rw [← HP.out]; have := HLEN.out; omega)
      rw [← HP.out] at hpe
      refine ⟨u4, u5, rfl, ?_, ?_, hap, hbel⟩
      · rw [← hpe.1]; exact hou
      · rw [← hpe.2]; exact hov
end Go.Proofs.YtgljhhlnnedmaaaDoor
