/- Runes that are written are read again: the plain law. -/
import Derived.Test.YtgljhhlnnedmaaaDoorEncSpec
import Derived.Test.YtgljhhlnnedmaaaDoorDecPlain
namespace Go.Proofs.YtgljhhlnnedmaaaDoor
open Go.RowKit

theorem contB_of {c : Int} (h : 128 ≤ c ∧ c ≤ 191) : contB c = true := by simpa [contB] using h

/-- What is written of a rune is read again. -/
theorem dec_enc {r : Int} (h : dom r = true) (t : List Int) : dec (encB r ++ t) = (r, ((encB r).length : Int)) := by
  simp only [dom, decide_eq_true_eq] at h
  obtain ⟨h0, h1, h2⟩ := h
  by_cases g1 : r ≤ 127
  · rw [enc1 g1]
    simp only [List.cons_append, List.nil_append]
    rw [dec_0 h0 g1]
    simp [decAt, lead_02]
  by_cases g2 : r ≤ 2047
  · rw [enc2 (by omega) g2]
    simp only [List.cons_append, List.nil_append]
    rw [dec_1 (by omega) (by omega), decAt_2 lead_12 (by rw [lead_13]; omega) (by rw [lead_14]; omega), contB_of (by omega)]
    simp only [if_true, List.length_cons, List.length_nil, Prod.mk.injEq]
    omega
  by_cases g3 : r ≤ 65535
  · rw [enc3 (by omega) g3]
    simp only [List.cons_append, List.nil_append]
    have e : ∀ a b c : Int, a = 224 + r / 4096 → b = 128 + r / 64 % 64 → c = 128 + r % 64 → dec (a :: b :: c :: t) = (r, 3) := by
      intro a b c ha hb hc
      have hres : (if contB b && contB c then ((a % 16 * 64 + b % 64) * 64 + c % 64, (3 : Int)) else (65533, 1)) = (r, 3) := by
        rw [contB_of (by omega), contB_of (by omega)]
        simp only [Bool.and_self, if_true, Prod.mk.injEq, and_true]
        omega
      by_cases k1 : a = 224
      · rw [dec_2 (by omega) (by omega), decAt_3 lead_22 (by rw [lead_23]; omega) (by rw [lead_24]; omega), hres]
      by_cases k2 : a ≤ 236
      · rw [dec_3 (by omega) (by omega), decAt_3 lead_32 (by rw [lead_33]; omega) (by rw [lead_34]; omega), hres]
      by_cases k3 : a = 237
      · rw [dec_4 (by omega) (by omega), decAt_3 lead_42 (by rw [lead_43]; omega) (by rw [lead_44]; omega), hres]
      · rw [dec_5 (by omega) (by omega), decAt_3 lead_52 (by rw [lead_53]; omega) (by rw [lead_54]; omega), hres]
    rw [e _ _ _ rfl rfl rfl]; rfl
  · rw [enc4 (by omega)]
    simp only [List.cons_append, List.nil_append]
    have e : ∀ a b c d : Int, a = 240 + r / 262144 → b = 128 + r / 4096 % 64 → c = 128 + r / 64 % 64 → d = 128 + r % 64 → dec (a :: b :: c :: d :: t) = (r, 4) := by
      intro a b c d ha hb hc hd
      have hres : (if contB b && contB c && contB d then (((a % 8 * 64 + b % 64) * 64 + c % 64) * 64 + d % 64, (4 : Int)) else (65533, 1)) = (r, 4) := by
        rw [contB_of (by omega), contB_of (by omega), contB_of (by omega)]
        simp only [Bool.and_self, if_true, Prod.mk.injEq, and_true]
        omega
      by_cases k1 : a = 240
      · rw [dec_6 (by omega) (by omega), decAt_4 lead_62 (by rw [lead_63]; omega) (by rw [lead_64]; omega), hres]
      by_cases k2 : a ≤ 243
      · rw [dec_7 (by omega) (by omega), decAt_4 lead_72 (by rw [lead_73]; omega) (by rw [lead_74]; omega), hres]
      · rw [dec_8 (by omega) (by omega), decAt_4 lead_82 (by rw [lead_83]; omega) (by rw [lead_84]; omega), hres]
    rw [e _ _ _ _ rfl rfl rfl rfl]; rfl

/-- Where the i-th rune's bytes begin. -/
def plc (l : List Int) (i : Nat) : Nat := (encL (l.take i)).length
theorem encL_append (a b : List Int) : encL (a ++ b) = encL a ++ encL b := by simp [encL]
theorem encL_cut {l : List Int} {i : Nat} {x : Int} (h : l[i]? = some x) : encL l = encL (l.take i) ++ (encB x ++ encL (l.drop (i + 1))) := by
  obtain ⟨hi, rfl⟩ := List.getElem?_eq_some_iff.1 h
  have e : l = l.take i ++ (l[i] :: l.drop (i + 1)) := by rw [List.getElem_cons_drop, List.take_append_drop]
  have e2 : encL l = encL (l.take i ++ (l[i] :: l.drop (i + 1))) := congrArg encL e
  have e3 : encL (l[i] :: l.drop (i + 1)) = encB l[i] ++ encL (l.drop (i + 1)) := by unfold encL; rw [List.flatMap_cons]
  rw [e2, encL_append, e3]
theorem encL_drop {l : List Int} {i : Nat} {x : Int} (h : l[i]? = some x) : (encL l).drop (plc l i) = encB x ++ encL (l.drop (i + 1)) := by
  rw [encL_cut h]; unfold plc; exact List.drop_left
theorem plc_succ {l : List Int} {i : Nat} {x : Int} (h : l[i]? = some x) : plc l (i + 1) = plc l i + (encB x).length := by
  unfold plc; rw [encL_take h, List.length_append]
theorem plc_le {l : List Int} {i : Nat} : plc l i ≤ (encL l).length := by
  unfold plc
  have e : encL l = encL (l.take i ++ l.drop i) := by rw [List.take_append_drop]
  rw [e, encL_append, List.length_append]; omega
theorem plc_ge {l : List Int} : ∀ {i : Nat}, i ≤ l.length → i ≤ plc l i := by
  intro i
  induction i with
  | zero => intro _; omega
  | succ i ih =>
    intro h
    have hx : l[i]? = some l[i] := List.getElem?_eq_getElem (by omega)
    rw [plc_succ hx]
    have := ih (by omega)
    have := encB_len l[i]
    omega
theorem plc_lt {l : List Int} {i : Nat} {x : Int} (h : l[i]? = some x) : plc l i < (encL l).length := by
  have e := congrArg List.length (encL_cut h)
  simp only [List.length_append] at e
  have := encB_len x
  unfold plc; omega

theorem cutSt_enc {l : List Int} (hd : ∀ x ∈ l, dom x = true) : ∀ i, i ≤ l.length → cutSt (encL l) i = (plc l i, l.take i, (List.range i).map fun j => (plc l j : Int)) := by
  intro i
  induction i with
  | zero => intro _; simp [cutSt, plc, encL]
  | succ i ih =>
    intro hi
    have e := ih (by omega)
    have hx : l[i]? = some l[i] := List.getElem?_eq_getElem (by omega)
    have hlt : (cutSt (encL l) i).1 < (encL l).length := by rw [e]; exact plc_lt hx
    rw [cutSt_step hlt, e]
    simp only []
    rw [encL_drop hx, dec_enc (hd _ (List.getElem_mem _))]
    simp only [Int.toNat_natCast, Prod.mk.injEq]
    refine ⟨(plc_succ hx).symm, ?_, ?_⟩
    · rw [List.take_add_one, hx]; rfl
    · rw [List.range_succ, List.map_append]; rfl
theorem plc_all {l : List Int} : plc l l.length = (encL l).length := by unfold plc; rw [List.take_length]
theorem cut_enc {l : List Int} (hd : ∀ x ∈ l, dom x = true) : cutRunes (encL l) = l ∧ cutPlaces (encL l) = (List.range (l.length + 1)).map fun j => (plc l j : Int) := by
  have e := cutSt_enc hd l.length (Nat.le_refl _)
  have h := cut_done (bs := encL l) (i := l.length) (by rw [e]; exact plc_ge (Nat.le_refl _)) (by rw [e]; simp only [plc_all]; omega)
  rw [e] at h
  simp only [List.take_length] at h
  refine ⟨h.1.symm, ?_⟩
  rw [← h.2, List.range_succ, List.map_append]; rfl
theorem places_at {l : List Int} (hd : ∀ x ∈ l, dom x = true) {i : Nat} (hi : i ≤ l.length) : (cutPlaces (encL l))[i]? = some (plc l i : Int) := by
  rw [(cut_enc hd).2, List.getElem?_map, List.getElem?_range (by omega)]; rfl
theorem places_len {l : List Int} (hd : ∀ x ∈ l, dom x = true) : (cutPlaces (encL l)).length = l.length + 1 := by
  rw [(cut_enc hd).2, List.length_map, List.length_range]
theorem encL_one (x : Int) : encL [x] = encB x := by simp [encL]
theorem encL_mid {l : List Int} {i : Nat} {x : Int} (h : l[i]? = some x) : ((encL l).drop (plc l i)).take (plc l (i + 1) - plc l i) = encB x := by
  rw [encL_drop h, plc_succ h, Nat.add_sub_cancel_left]; exact List.take_left
theorem drop_take_one {l : List Int} {i : Nat} {x : Int} (h : l[i]? = some x) : (l.drop i).take 1 = [x] := by
  obtain ⟨hi, rfl⟩ := List.getElem?_eq_some_iff.1 h
  rw [← List.getElem_cons_drop hi]; rfl
end Go.Proofs.YtgljhhlnnedmaaaDoor
