/- heronref01.Cut -/
import Derived.Test.YtgljhhlnnedmaaaDoorCut
namespace Go.Proofs.YtgljhhlnnedmaaaDoor
open Go.RowKit

set_option maxHeartbeats 1000000 in
theorem refCut_any (A : Option Addr) (n c : Nat) (bs : List Int) (w : World) (hr : Reads w w.heap.size 1 A n c (bs.map (Value.int .u8))) (hbs : ∀ b ∈ bs, 0 ≤ b ∧ b ≤ 255) (hn : n ≤ 1048576) :
    Calls Tryd.prog 16 #[.slice A n c] w fun e w' => ∃ u v, e = .returned (.tuple #[u, v]) ∧ w'.ownsRow w.heap.size 3 1 u (cutRunes bs).length ((cutRunes bs).map (Value.int .i64)) ∧
      w'.ownsRow w.heap.size 3 1 v (cutPlaces bs).length ((cutPlaces bs).map (Value.int .i64)) ∧ Apart u v ∧ Below w.heap.size w w' := by
  obtain ⟨i0, hi, hz0, hz1, hz2⟩ := info_parts int_info
  obtain ⟨B, hB⟩ : ∃ B, B = w.heap.size := ⟨_, rfl⟩
  rw [← hB] at hr
  rw [← hB]
  have hBs : B ≤ w.heap.size := by omega
  have HB := Lib.hid hB
  have hlen := hr.len
  simp only [List.length_map, Nat.mul_one] at hlen
  have HLEN := Lib.hid hlen
  have HBS := Lib.hid hbs
  have hnc := hr.le
  have hcap := hr.cap
  clear hB hlen hbs
  go_enter Tryd.func16, Tryd.ntmps16
  go_wp2_with fail
  go_loopw [4, 5, 6] (fun u v p wr => ∃ i : Nat, p = .int .i64 ((cutSt bs i).1 : Int) ∧ i ≤ (cutSt bs i).1 ∧ wr.ownsRow B 3 1 u (cutSt bs i).2.1.length ((cutSt bs i).2.1.map (Value.int .i64)) ∧
      wr.ownsRow B 3 1 v (cutSt bs i).2.2.length ((cutSt bs i).2.2.map (Value.int .i64)) ∧ Apart u v ∧ Below B w wr) (fun _ _ p _ => n - (intOf p).toNat)
  case atStart => exact ⟨0, rfl, Nat.le_refl _, World.ownsRow_nil _ _ _ _, World.ownsRow_nil _ _ _ _, .inl rfl, Below.refl _ _⟩
  case round =>
    obtain ⟨i, rfl, hii, hou, hov, hap, hbel⟩ := hrel
    have hbd := cutSt_bd bs i
    obtain ⟨p, hp⟩ : ∃ p, p = (cutSt bs i).1 := ⟨_, rfl⟩
    have HP := Lib.hid hp
    rw [← hp] at hii hbd
    rw [← hp]
    clear hp
    have hpn : p ≤ n := by have := HLEN.out; omega
    have hszr : B ≤ wr.heap.size := by have := hbel.size; omega
    have hl1 : (cutSt bs i).2.1.length ≤ 1048576 := by omega
    have hl2 : (cutSt bs i).2.2.length ≤ 1048576 := by omega
    have HBD := Lib.hid hbd
    clear hbd
    by_cases hlt : p < n
    · have hdn := dec_n (bs := bs.drop p) (by rw [List.length_drop]; have := HLEN.out; omega)
      rw [List.length_drop] at hdn
      have hdn1 := hdn.1
      have hdn2 : (dec (bs.drop p)).2 ≤ (n : Int) - p := by have := HLEN.out; omega
      clear hdn
      have hrd : Reads wr wr.heap.size 1 (A.map (·.add p)) (n - p) (c - p) ((bs.drop p).map (Value.int .u8)) := by
        have := ((hr.below hbel).drop hpn).more hszr
        rw [if_neg (by omega), Nat.mul_one, ← List.map_drop] at this
        exact this
      have hdec := refDecode_any _ _ _ (bs.drop p) wr hrd (fun b hb => HBS.out b (List.mem_of_mem_drop hb))
      have HD := Lib.hid hdec
      have HR := Lib.hid hr
      clear hdec hrd hr
      have hcp : ¬ c = p := by omega
      obtain ⟨ru, hru⟩ : ∃ ru, ru = (cutSt bs i).2.1 := ⟨_, rfl⟩
      obtain ⟨st, hst⟩ : ∃ st, st = (cutSt bs i).2.2 := ⟨_, rfl⟩
      obtain ⟨d1, hd1⟩ : ∃ d, d = (dec (bs.drop p)).1 := ⟨_, rfl⟩
      obtain ⟨d2, hd2⟩ : ∃ d, d = (dec (bs.drop p)).2 := ⟨_, rfl⟩
      rw [← hru] at hou hl1
      rw [← hst] at hov hl2
      rw [← hd2] at hdn1 hdn2
      unfold RefDecodePost at HD
      rw [← dec_eq (fun b hb => HBS.out b (List.mem_of_mem_drop hb))] at HD
      rw [← hd1, ← hd2] at HD
      have HE := Lib.hid (show cutSt bs (i + 1) = (p + d2.toNat, ru ++ [d1], st ++ [(p : Int)]) from by
        rw [cutSt_step (by rw [← HP.out]; have := HLEN.out; omega), ← HP.out, ← hru, ← hst, ← hd1, ← hd2])
      clear hru hst hd1 hd2
      go_wp2_with fail
      refine HD.out.mono ?_
      rintro e w1 ⟨rfl, hb1⟩
      have hou1 := own_below hou hb1
      have hov1 := own_below hov hb1
      have hbel1 : Below B w w1 := hbel.trans (hb1.mono hszr)
      have hsz1 : B ≤ w1.heap.size := by have := hbel1.size; omega
      clear hb1 hou hov hbel HD
      go_wp2_with (first
        | (at_builtin; refine wpList_append_own_at _ rfl (.tmp 20) (.tmp 22) 29 rfl B 3 i0 (.int .i64 0) 1 8 Tryd.underlying29 hi hz0 hz1 hz2 rfl (by decide) u4 ru.length (ru.map (Value.int .i64)) rfl (hou1.alloc _) ⟨w1.heap.size, 0, none⟩ 1 1 [.int .i64 d1] rfl rfl (cell_one_new _ _ _) (by simp [Value.oneCell']) (by unfold maxLen; omega) (by omega) (by simp; omega) ?_; intro v2 w2 hou2 hg2 _ hat2; have hov2 := (hov1.alloc (.cells #[.int .i64 d1] 3)).kept hg2 (apart_symm hap); have hbel2 := (hbel1.alloc hsz1 (.cells #[.int .i64 d1] 3)).grown hg2 (by simp; omega) (fun k hk => (hou1.lt k hk).1); have hsz2 : B ≤ w2.heap.size := Nat.le_trans hBs hbel2.size)
        | (at_builtin; refine wpList_append_own_at _ rfl (.tmp 24) (.tmp 26) 29 rfl B 3 i0 (.int .i64 0) 1 8 Tryd.underlying29 hi hz0 hz1 hz2 rfl (by decide) u5 st.length (st.map (Value.int .i64)) rfl (hov2.alloc _) ⟨w2.heap.size, 0, none⟩ 1 1 [.int .i64 p] rfl rfl (cell_one_new _ _ _) (by simp [Value.oneCell']) (by unfold maxLen; (try simp); omega) (by (try simp); omega) (by simp; omega) ?_; intro v3 w3 hov3 hg3 _ hat3)
        | fail)
      have hou3 := (hou2.alloc (.cells #[.int .i64 p] 3)).kept hg3 (by
        have := apart_append (u := u5) (v := u4) (v' := v2) (apart_symm hap) (hov1.alloc (.cells #[.int .i64 d1] 3)) (by rcases hat2 with h | h; exact .inl h; exact .inr ⟨_, Nat.le_refl _, h⟩)
        exact apart_symm this)
      have hbel3 := (hbel2.alloc hsz2 (.cells #[.int .i64 p] 3)).grown hg3 (by simp; omega) (fun k hk => (hov1.lt k hk).1)
      have hap3 : Apart v2 v3 := by
        have h2 := apart_append (u := u5) (v := u4) (v' := v2) (apart_symm hap) (hov1.alloc (.cells #[.int .i64 d1] 3)) (by rcases hat2 with h | h; exact .inl h; exact .inr ⟨_, Nat.le_refl _, h⟩)
        exact apart_append (apart_symm h2) (hou2.alloc (.cells #[.int .i64 p] 3)) (by rcases hat3 with h | h; exact .inl h; exact .inr ⟨_, Nat.le_refl _, h⟩)
      go_wp2_with fail
      go_roundw
      case rel =>
        refine ⟨i + 1, ?_, ?_, ?_, ?_, hap3, hbel3⟩
        · rw [HE.out]; simp only []; go_num
        · rw [HE.out]; simp only []; omega
        · rw [HE.out]
          simpa using hou3
        · rw [HE.out]
          simpa using hov3
      case measure => simp [intOf]; omega
    · have hpe := cut_done (bs := bs) (i := i) (by rw [← HP.out]; exact hii) (by rw [← HP.out]; have := HLEN.out; omega)
      rw [← HP.out] at hpe
      have HPE := Lib.hid hpe
      clear hpe
      obtain ⟨ru, hru⟩ : ∃ ru, ru = (cutSt bs i).2.1 := ⟨_, rfl⟩
      obtain ⟨st, hst⟩ : ∃ st, st = (cutSt bs i).2.2 := ⟨_, rfl⟩
      rw [← hru] at hou hl1 HPE
      rw [← hst] at hov hl2 HPE
      clear hru hst
      have hou1 := hou.alloc (.cells #[.int .i64 p] 3)
      go_wp2_with (at_builtin; refine wpList_append_own_at _ rfl (.tmp 32) (.tmp 34) 29 rfl B 3 i0 (.int .i64 0) 1 8 Tryd.underlying29 hi hz0 hz1 hz2 rfl (by decide) u5 st.length (st.map (Value.int .i64)) rfl (hov.alloc _) ⟨wr.heap.size, 0, none⟩ 1 1 [.int .i64 p] rfl rfl (cell_one_new _ _ _) (by simp [Value.oneCell']) (by unfold maxLen; omega) (by omega) (by simp; omega) ?_; intro v3 w3 hov3 hg3 _ hat3)
      go_ret2
      have hou3 := hou1.kept hg3 hap
      have hbel3 := (hbel.alloc hszr (.cells #[.int .i64 p] 3)).grown hg3 (by simp; omega) (fun k hk => (hov.lt k hk).1)
      refine ⟨u4, v3, rfl, ?_, ?_, apart_append hap hou1 (by rcases hat3 with h | h; exact .inl h; exact .inr ⟨_, Nat.le_refl _, h⟩), hbel3⟩
      · rw [← HPE.out.1]; exact hou3
      · rw [← HPE.out.2]; simpa using hov3
end Go.Proofs.YtgljhhlnnedmaaaDoor
