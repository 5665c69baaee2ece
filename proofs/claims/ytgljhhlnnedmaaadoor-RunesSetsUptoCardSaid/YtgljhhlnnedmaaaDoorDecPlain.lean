/- What Decode tells by its table is what it tells by definition. No walk here. -/
import Derived.Test.YtgljhhlnnedmaaaDoorDecode
import Derived.Test.YtgljhhlnnedmaaaDoorRefDecode
namespace Go.Proofs.YtgljhhlnnedmaaaDoor

theorem enc1 {r : Int} (h : r ≤ 127) : encB r = [r] := by simp [encB, h]
theorem enc2 {r : Int} (h1 : 127 < r) (h : r ≤ 2047) : encB r = [192 + r / 64, 128 + r % 64] := by simp [encB, h, Int.not_le.2 h1]
theorem enc3 {r : Int} (h1 : 2047 < r) (h : r ≤ 65535) : encB r = [224 + r / 4096, 128 + r / 64 % 64, 128 + r % 64] := by
  simp [encB, h, Int.not_le.2 h1, show ¬ r ≤ 127 from by omega]
theorem enc4 {r : Int} (h1 : 65535 < r) : encB r = [240 + r / 262144, 128 + r / 4096 % 64, 128 + r / 64 % 64, 128 + r % 64] := by
  simp [encB, Int.not_le.2 h1, show ¬ r ≤ 127 from by omega, show ¬ r ≤ 2047 from by omega]

theorem ok1 {a : Int} {r : List Int} (h0 : 0 ≤ a) (h1 : a ≤ 255) : refOk (a :: r) 1 = decide (a ≤ 127) := by
  by_cases h : a ≤ 127
  · have hd : dom a = true := decide_eq_true (by omega)
    simp [refOk, valueOf, enc1 h, hd, h]
  · simp [refOk, valueOf, enc2 (by omega) (show a ≤ 2047 from by omega), h]
theorem ok2 {a b : Int} {r : List Int} (h0 : 0 ≤ a) (h1 : a ≤ 255) (g0 : 0 ≤ b) (g1 : b ≤ 255) : refOk (a :: b :: r) 2 = decide (194 ≤ a ∧ a ≤ 223 ∧ 128 ≤ b ∧ b ≤ 191) := by
  rw [Bool.eq_iff_iff]
  obtain ⟨v, hv⟩ : ∃ v, v = a % 32 * 64 + b % 64 := ⟨_, rfl⟩
  simp only [refOk, List.take, valueOf, ← hv]
  by_cases h : v ≤ 127
  · simp [enc1 h]; omega
  · simp [enc2 (show 127 < v from by omega) (by omega), dom]; omega
theorem ok3 {a b c : Int} {r : List Int} (h0 : 0 ≤ a) (h1 : a ≤ 255) (g0 : 0 ≤ b) (g1 : b ≤ 255) (k0 : 0 ≤ c) (k1 : c ≤ 255) :
    refOk (a :: b :: c :: r) 3 = decide (224 ≤ a ∧ a ≤ 239 ∧ 128 ≤ b ∧ b ≤ 191 ∧ 128 ≤ c ∧ c ≤ 191 ∧ (a = 224 → 160 ≤ b) ∧ (a = 237 → b ≤ 159)) := by
  rw [Bool.eq_iff_iff]
  obtain ⟨v, hv⟩ : ∃ v, v = a % 16 * 4096 + b % 64 * 64 + c % 64 := ⟨_, rfl⟩
  simp only [refOk, List.take, valueOf, ← hv]
  by_cases h : v ≤ 127
  · simp [enc1 h]; omega
  by_cases h' : v ≤ 2047
  · simp [enc2 (show 127 < v from by omega) h']; omega
  · simp [enc3 (show 2047 < v from by omega) (by omega), dom]; omega
theorem ok4 {a b c d : Int} {r : List Int} (h0 : 0 ≤ a) (h1 : a ≤ 255) (g0 : 0 ≤ b) (g1 : b ≤ 255) (k0 : 0 ≤ c) (k1 : c ≤ 255) (l0 : 0 ≤ d) (l1 : d ≤ 255) :
    refOk (a :: b :: c :: d :: r) 4 = decide (240 ≤ a ∧ a ≤ 244 ∧ 128 ≤ b ∧ b ≤ 191 ∧ 128 ≤ c ∧ c ≤ 191 ∧ 128 ≤ d ∧ d ≤ 191 ∧ (a = 240 → 144 ≤ b) ∧ (a = 244 → b ≤ 143)) := by
  rw [Bool.eq_iff_iff]
  obtain ⟨v, hv⟩ : ∃ v, v = a % 8 * 262144 + b % 64 * 4096 + c % 64 * 64 + d % 64 := ⟨_, rfl⟩
  simp only [refOk, List.take, valueOf, ← hv]
  by_cases h : v ≤ 127
  · simp [enc1 h]; omega
  by_cases h' : v ≤ 2047
  · simp [enc2 (show 127 < v from by omega) h']; omega
  by_cases h'' : v ≤ 65535
  · simp [enc3 (show 2047 < v from by omega) h'']; omega
  · simp [enc4 (show 65535 < v from by omega), dom]; omega
theorem ok_short {bs : List Int} {n : Nat} (h : bs.length < n) : refOk bs n = false := by
  unfold refOk
  rw [decide_eq_false (by omega)]; rfl

theorem lead_00 : lead 0 0 = 0 := rfl
theorem lead_01 : lead 0 1 = 127 := rfl
theorem lead_02 : lead 0 2 = 1 := rfl
theorem lead_03 : lead 0 3 = 0 := rfl
theorem lead_04 : lead 0 4 = 0 := rfl
theorem lead_10 : lead 1 0 = 194 := rfl
theorem lead_11 : lead 1 1 = 223 := rfl
theorem lead_12 : lead 1 2 = 2 := rfl
theorem lead_13 : lead 1 3 = 128 := rfl
theorem lead_14 : lead 1 4 = 191 := rfl
theorem lead_20 : lead 2 0 = 224 := rfl
theorem lead_21 : lead 2 1 = 224 := rfl
theorem lead_22 : lead 2 2 = 3 := rfl
theorem lead_23 : lead 2 3 = 160 := rfl
theorem lead_24 : lead 2 4 = 191 := rfl
theorem lead_30 : lead 3 0 = 225 := rfl
theorem lead_31 : lead 3 1 = 236 := rfl
theorem lead_32 : lead 3 2 = 3 := rfl
theorem lead_33 : lead 3 3 = 128 := rfl
theorem lead_34 : lead 3 4 = 191 := rfl
theorem lead_40 : lead 4 0 = 237 := rfl
theorem lead_41 : lead 4 1 = 237 := rfl
theorem lead_42 : lead 4 2 = 3 := rfl
theorem lead_43 : lead 4 3 = 128 := rfl
theorem lead_44 : lead 4 4 = 159 := rfl
theorem lead_50 : lead 5 0 = 238 := rfl
theorem lead_51 : lead 5 1 = 239 := rfl
theorem lead_52 : lead 5 2 = 3 := rfl
theorem lead_53 : lead 5 3 = 128 := rfl
theorem lead_54 : lead 5 4 = 191 := rfl
theorem lead_60 : lead 6 0 = 240 := rfl
theorem lead_61 : lead 6 1 = 240 := rfl
theorem lead_62 : lead 6 2 = 4 := rfl
theorem lead_63 : lead 6 3 = 144 := rfl
theorem lead_64 : lead 6 4 = 191 := rfl
theorem lead_70 : lead 7 0 = 241 := rfl
theorem lead_71 : lead 7 1 = 243 := rfl
theorem lead_72 : lead 7 2 = 4 := rfl
theorem lead_73 : lead 7 3 = 128 := rfl
theorem lead_74 : lead 7 4 = 191 := rfl
theorem lead_80 : lead 8 0 = 244 := rfl
theorem lead_81 : lead 8 1 = 244 := rfl
theorem lead_82 : lead 8 2 = 4 := rfl
theorem lead_83 : lead 8 3 = 128 := rfl
theorem lead_84 : lead 8 4 = 143 := rfl

theorem dec_0 {a : Int} {r : List Int} (h0 : 0 ≤ a) (h1 : a ≤ 127) : dec (a :: r) = decAt 0 a r :=
  dec_hit (by omega) (fun j hj => absurd hj (by omega)) (by simp only [lead_00, lead_01]; omega)
theorem dec_1 {a : Int} {r : List Int} (h0 : 194 ≤ a) (h1 : a ≤ 223) : dec (a :: r) = decAt 1 a r :=
  dec_hit (by omega) (fun j hj => by
    rcases (show j = 0 from by omega) with rfl <;> simp only [lead_00, lead_01] <;> omega) (by simp only [lead_10, lead_11]; omega)
theorem dec_2 {a : Int} {r : List Int} (h0 : 224 ≤ a) (h1 : a ≤ 224) : dec (a :: r) = decAt 2 a r :=
  dec_hit (by omega) (fun j hj => by
    rcases (show j = 0 ∨ j = 1 from by omega) with rfl | rfl <;> simp only [lead_00, lead_01, lead_10, lead_11] <;> omega) (by simp only [lead_20, lead_21]; omega)
theorem dec_3 {a : Int} {r : List Int} (h0 : 225 ≤ a) (h1 : a ≤ 236) : dec (a :: r) = decAt 3 a r :=
  dec_hit (by omega) (fun j hj => by
    rcases (show j = 0 ∨ j = 1 ∨ j = 2 from by omega) with rfl | rfl | rfl <;> simp only [lead_00, lead_01, lead_10, lead_11, lead_20, lead_21] <;> omega) (by simp only [lead_30, lead_31]; omega)
theorem dec_4 {a : Int} {r : List Int} (h0 : 237 ≤ a) (h1 : a ≤ 237) : dec (a :: r) = decAt 4 a r :=
  dec_hit (by omega) (fun j hj => by
    rcases (show j = 0 ∨ j = 1 ∨ j = 2 ∨ j = 3 from by omega) with rfl | rfl | rfl | rfl <;> simp only [lead_00, lead_01, lead_10, lead_11, lead_20, lead_21, lead_30, lead_31] <;> omega) (by simp only [lead_40, lead_41]; omega)
theorem dec_5 {a : Int} {r : List Int} (h0 : 238 ≤ a) (h1 : a ≤ 239) : dec (a :: r) = decAt 5 a r :=
  dec_hit (by omega) (fun j hj => by
    rcases (show j = 0 ∨ j = 1 ∨ j = 2 ∨ j = 3 ∨ j = 4 from by omega) with rfl | rfl | rfl | rfl | rfl <;> simp only [lead_00, lead_01, lead_10, lead_11, lead_20, lead_21, lead_30, lead_31, lead_40, lead_41] <;> omega) (by simp only [lead_50, lead_51]; omega)
theorem dec_6 {a : Int} {r : List Int} (h0 : 240 ≤ a) (h1 : a ≤ 240) : dec (a :: r) = decAt 6 a r :=
  dec_hit (by omega) (fun j hj => by
    rcases (show j = 0 ∨ j = 1 ∨ j = 2 ∨ j = 3 ∨ j = 4 ∨ j = 5 from by omega) with rfl | rfl | rfl | rfl | rfl | rfl <;> simp only [lead_00, lead_01, lead_10, lead_11, lead_20, lead_21, lead_30, lead_31, lead_40, lead_41, lead_50, lead_51] <;> omega) (by simp only [lead_60, lead_61]; omega)
theorem dec_7 {a : Int} {r : List Int} (h0 : 241 ≤ a) (h1 : a ≤ 243) : dec (a :: r) = decAt 7 a r :=
  dec_hit (by omega) (fun j hj => by
    rcases (show j = 0 ∨ j = 1 ∨ j = 2 ∨ j = 3 ∨ j = 4 ∨ j = 5 ∨ j = 6 from by omega) with rfl | rfl | rfl | rfl | rfl | rfl | rfl <;> simp only [lead_00, lead_01, lead_10, lead_11, lead_20, lead_21, lead_30, lead_31, lead_40, lead_41, lead_50, lead_51, lead_60, lead_61] <;> omega) (by simp only [lead_70, lead_71]; omega)
theorem dec_8 {a : Int} {r : List Int} (h0 : 244 ≤ a) (h1 : a ≤ 244) : dec (a :: r) = decAt 8 a r :=
  dec_hit (by omega) (fun j hj => by
    rcases (show j = 0 ∨ j = 1 ∨ j = 2 ∨ j = 3 ∨ j = 4 ∨ j = 5 ∨ j = 6 ∨ j = 7 from by omega) with rfl | rfl | rfl | rfl | rfl | rfl | rfl | rfl <;> simp only [lead_00, lead_01, lead_10, lead_11, lead_20, lead_21, lead_30, lead_31, lead_40, lead_41, lead_50, lead_51, lead_60, lead_61, lead_70, lead_71] <;> omega) (by simp only [lead_80, lead_81]; omega)
theorem dec_none {a : Int} {r : List Int} (h0 : 127 < a) (h : a < 194 ∨ 244 < a) : dec (a :: r) = (65533, 1) :=
  dec_miss fun j hj => by
    rcases (show j = 0 ∨ j = 1 ∨ j = 2 ∨ j = 3 ∨ j = 4 ∨ j = 5 ∨ j = 6 ∨ j = 7 ∨ j = 8 from by omega) with rfl | rfl | rfl | rfl | rfl | rfl | rfl | rfl | rfl <;> simp only [lead_00, lead_01, lead_10, lead_11, lead_20, lead_21, lead_30, lead_31, lead_40, lead_41, lead_50, lead_51, lead_60, lead_61, lead_70, lead_71, lead_80, lead_81] <;> omega

theorem ok2_no {a : Int} {r : List Int} (hbs : ∀ b ∈ a :: r, 0 ≤ b ∧ b ≤ 255) (h : a < 194 ∨ 223 < a) : refOk (a :: r) 2 = false := by
  have ha := hbs a (by simp)
  match r, hbs with
  | [], _ => exact ok_short (by simp)
  | b :: r, hbs => rw [ok2 ha.1 ha.2 (hbs b (by simp)).1 (hbs b (by simp)).2]; simp; omega
theorem ok3_no {a : Int} {r : List Int} (hbs : ∀ b ∈ a :: r, 0 ≤ b ∧ b ≤ 255) (h : a < 224 ∨ 239 < a) : refOk (a :: r) 3 = false := by
  have ha := hbs a (by simp)
  match r, hbs with
  | [], _ => exact ok_short (by simp)
  | [b], _ => exact ok_short (by simp)
  | b :: c :: r, hbs => rw [ok3 ha.1 ha.2 (hbs b (by simp)).1 (hbs b (by simp)).2 (hbs c (by simp)).1 (hbs c (by simp)).2]; simp; omega
theorem ok4_no {a : Int} {r : List Int} (hbs : ∀ b ∈ a :: r, 0 ≤ b ∧ b ≤ 255) (h : a < 240 ∨ 244 < a) : refOk (a :: r) 4 = false := by
  have ha := hbs a (by simp)
  match r, hbs with
  | [], _ => exact ok_short (by simp)
  | [b], _ => exact ok_short (by simp)
  | [b, c], _ => exact ok_short (by simp)
  | b :: c :: d :: r, hbs => rw [ok4 ha.1 ha.2 (hbs b (by simp)).1 (hbs b (by simp)).2 (hbs c (by simp)).1 (hbs c (by simp)).2 (hbs d (by simp)).1 (hbs d (by simp)).2]; simp; omega
theorem decAt_1_eq {a : Int} {r : List Int} (hbs : ∀ b ∈ a :: r, 0 ≤ b ∧ b ≤ 255) (g0 : 194 ≤ a) (g1 : a ≤ 223) :
    decAt 1 a r = if refOk (a :: r) 2 then (valueOf ((a :: r).take 2), 2) else (65533, 1) := by
  have ha := hbs a (by simp)
  match r, hbs with
  | [], _ => rw [decAt_short (by rw [lead_12]; omega) (by rw [lead_12]; omega) (by rw [lead_12]; simp), ok_short (by simp)]; rfl
  | b :: r, hbs =>
    have hb := hbs b (by simp)
    rw [ok2 ha.1 ha.2 hb.1 hb.2]
    by_cases hlow : b < 128 ∨ 191 < b
    · rw [decAt_low (by rw [lead_12]; omega) (by rw [lead_13, lead_14]; exact hlow), if_neg (by simp; omega)]
    · rw [decAt_2 lead_12 (by rw [lead_13]; omega) (by rw [lead_14]; omega)]
      by_cases hc : (128 ≤ b ∧ b ≤ 191)
      · rw [if_pos (by simp [contB]; omega), if_pos (by simp; omega)]
        exact Prod.ext (by simp only [List.take, valueOf] <;> omega) rfl
      · rw [if_neg (by simp [contB]; omega), if_neg (by simp; omega)]
theorem decAt_2_eq {a : Int} {r : List Int} (hbs : ∀ b ∈ a :: r, 0 ≤ b ∧ b ≤ 255) (g0 : 224 ≤ a) (g1 : a ≤ 224) :
    decAt 2 a r = if refOk (a :: r) 3 then (valueOf ((a :: r).take 3), 3) else (65533, 1) := by
  have ha := hbs a (by simp)
  match r, hbs with
  | [], _ => rw [decAt_short (by rw [lead_22]; omega) (by rw [lead_22]; omega) (by rw [lead_22]; simp), ok_short (by simp)]; rfl
  | [b], _ => rw [decAt_short (by rw [lead_22]; omega) (by rw [lead_22]; omega) (by rw [lead_22]; simp), ok_short (by simp)]; rfl
  | b :: c :: r, hbs =>
    have hb := hbs b (by simp)
    have hc := hbs c (by simp)
    rw [ok3 ha.1 ha.2 hb.1 hb.2 hc.1 hc.2]
    by_cases hlow : b < 160 ∨ 191 < b
    · rw [decAt_low (by rw [lead_22]; omega) (by rw [lead_23, lead_24]; exact hlow), if_neg (by simp; omega)]
    · rw [decAt_3 lead_22 (by rw [lead_23]; omega) (by rw [lead_24]; omega)]
      by_cases hc : (128 ≤ b ∧ b ≤ 191) ∧ (128 ≤ c ∧ c ≤ 191)
      · rw [if_pos (by simp [contB]; omega), if_pos (by simp; omega)]
        exact Prod.ext (by simp only [List.take, valueOf] <;> omega) rfl
      · rw [if_neg (by simp [contB]; omega), if_neg (by simp; omega)]
theorem decAt_3_eq {a : Int} {r : List Int} (hbs : ∀ b ∈ a :: r, 0 ≤ b ∧ b ≤ 255) (g0 : 225 ≤ a) (g1 : a ≤ 236) :
    decAt 3 a r = if refOk (a :: r) 3 then (valueOf ((a :: r).take 3), 3) else (65533, 1) := by
  have ha := hbs a (by simp)
  match r, hbs with
  | [], _ => rw [decAt_short (by rw [lead_32]; omega) (by rw [lead_32]; omega) (by rw [lead_32]; simp), ok_short (by simp)]; rfl
  | [b], _ => rw [decAt_short (by rw [lead_32]; omega) (by rw [lead_32]; omega) (by rw [lead_32]; simp), ok_short (by simp)]; rfl
  | b :: c :: r, hbs =>
    have hb := hbs b (by simp)
    have hc := hbs c (by simp)
    rw [ok3 ha.1 ha.2 hb.1 hb.2 hc.1 hc.2]
    by_cases hlow : b < 128 ∨ 191 < b
    · rw [decAt_low (by rw [lead_32]; omega) (by rw [lead_33, lead_34]; exact hlow), if_neg (by simp; omega)]
    · rw [decAt_3 lead_32 (by rw [lead_33]; omega) (by rw [lead_34]; omega)]
      by_cases hc : (128 ≤ b ∧ b ≤ 191) ∧ (128 ≤ c ∧ c ≤ 191)
      · rw [if_pos (by simp [contB]; omega), if_pos (by simp; omega)]
        exact Prod.ext (by simp only [List.take, valueOf] <;> omega) rfl
      · rw [if_neg (by simp [contB]; omega), if_neg (by simp; omega)]
theorem decAt_4_eq {a : Int} {r : List Int} (hbs : ∀ b ∈ a :: r, 0 ≤ b ∧ b ≤ 255) (g0 : 237 ≤ a) (g1 : a ≤ 237) :
    decAt 4 a r = if refOk (a :: r) 3 then (valueOf ((a :: r).take 3), 3) else (65533, 1) := by
  have ha := hbs a (by simp)
  match r, hbs with
  | [], _ => rw [decAt_short (by rw [lead_42]; omega) (by rw [lead_42]; omega) (by rw [lead_42]; simp), ok_short (by simp)]; rfl
  | [b], _ => rw [decAt_short (by rw [lead_42]; omega) (by rw [lead_42]; omega) (by rw [lead_42]; simp), ok_short (by simp)]; rfl
  | b :: c :: r, hbs =>
    have hb := hbs b (by simp)
    have hc := hbs c (by simp)
    rw [ok3 ha.1 ha.2 hb.1 hb.2 hc.1 hc.2]
    by_cases hlow : b < 128 ∨ 159 < b
    · rw [decAt_low (by rw [lead_42]; omega) (by rw [lead_43, lead_44]; exact hlow), if_neg (by simp; omega)]
    · rw [decAt_3 lead_42 (by rw [lead_43]; omega) (by rw [lead_44]; omega)]
      by_cases hc : (128 ≤ b ∧ b ≤ 191) ∧ (128 ≤ c ∧ c ≤ 191)
      · rw [if_pos (by simp [contB]; omega), if_pos (by simp; omega)]
        exact Prod.ext (by simp only [List.take, valueOf] <;> omega) rfl
      · rw [if_neg (by simp [contB]; omega), if_neg (by simp; omega)]
theorem decAt_5_eq {a : Int} {r : List Int} (hbs : ∀ b ∈ a :: r, 0 ≤ b ∧ b ≤ 255) (g0 : 238 ≤ a) (g1 : a ≤ 239) :
    decAt 5 a r = if refOk (a :: r) 3 then (valueOf ((a :: r).take 3), 3) else (65533, 1) := by
  have ha := hbs a (by simp)
  match r, hbs with
  | [], _ => rw [decAt_short (by rw [lead_52]; omega) (by rw [lead_52]; omega) (by rw [lead_52]; simp), ok_short (by simp)]; rfl
  | [b], _ => rw [decAt_short (by rw [lead_52]; omega) (by rw [lead_52]; omega) (by rw [lead_52]; simp), ok_short (by simp)]; rfl
  | b :: c :: r, hbs =>
    have hb := hbs b (by simp)
    have hc := hbs c (by simp)
    rw [ok3 ha.1 ha.2 hb.1 hb.2 hc.1 hc.2]
    by_cases hlow : b < 128 ∨ 191 < b
    · rw [decAt_low (by rw [lead_52]; omega) (by rw [lead_53, lead_54]; exact hlow), if_neg (by simp; omega)]
    · rw [decAt_3 lead_52 (by rw [lead_53]; omega) (by rw [lead_54]; omega)]
      by_cases hc : (128 ≤ b ∧ b ≤ 191) ∧ (128 ≤ c ∧ c ≤ 191)
      · rw [if_pos (by simp [contB]; omega), if_pos (by simp; omega)]
        exact Prod.ext (by simp only [List.take, valueOf] <;> omega) rfl
      · rw [if_neg (by simp [contB]; omega), if_neg (by simp; omega)]
theorem decAt_6_eq {a : Int} {r : List Int} (hbs : ∀ b ∈ a :: r, 0 ≤ b ∧ b ≤ 255) (g0 : 240 ≤ a) (g1 : a ≤ 240) :
    decAt 6 a r = if refOk (a :: r) 4 then (valueOf ((a :: r).take 4), 4) else (65533, 1) := by
  have ha := hbs a (by simp)
  match r, hbs with
  | [], _ => rw [decAt_short (by rw [lead_62]; omega) (by rw [lead_62]; omega) (by rw [lead_62]; simp), ok_short (by simp)]; rfl
  | [b], _ => rw [decAt_short (by rw [lead_62]; omega) (by rw [lead_62]; omega) (by rw [lead_62]; simp), ok_short (by simp)]; rfl
  | [b, c], _ => rw [decAt_short (by rw [lead_62]; omega) (by rw [lead_62]; omega) (by rw [lead_62]; simp), ok_short (by simp)]; rfl
  | b :: c :: d :: r, hbs =>
    have hb := hbs b (by simp)
    have hc := hbs c (by simp)
    have hd := hbs d (by simp)
    rw [ok4 ha.1 ha.2 hb.1 hb.2 hc.1 hc.2 hd.1 hd.2]
    by_cases hlow : b < 144 ∨ 191 < b
    · rw [decAt_low (by rw [lead_62]; omega) (by rw [lead_63, lead_64]; exact hlow), if_neg (by simp; omega)]
    · rw [decAt_4 lead_62 (by rw [lead_63]; omega) (by rw [lead_64]; omega)]
      by_cases hc : (128 ≤ b ∧ b ≤ 191) ∧ (128 ≤ c ∧ c ≤ 191) ∧ (128 ≤ d ∧ d ≤ 191)
      · rw [if_pos (by simp [contB]; omega), if_pos (by simp; omega)]
        exact Prod.ext (by simp only [List.take, valueOf] <;> omega) rfl
      · rw [if_neg (by simp [contB]; omega), if_neg (by simp; omega)]
theorem decAt_7_eq {a : Int} {r : List Int} (hbs : ∀ b ∈ a :: r, 0 ≤ b ∧ b ≤ 255) (g0 : 241 ≤ a) (g1 : a ≤ 243) :
    decAt 7 a r = if refOk (a :: r) 4 then (valueOf ((a :: r).take 4), 4) else (65533, 1) := by
  have ha := hbs a (by simp)
  match r, hbs with
  | [], _ => rw [decAt_short (by rw [lead_72]; omega) (by rw [lead_72]; omega) (by rw [lead_72]; simp), ok_short (by simp)]; rfl
  | [b], _ => rw [decAt_short (by rw [lead_72]; omega) (by rw [lead_72]; omega) (by rw [lead_72]; simp), ok_short (by simp)]; rfl
  | [b, c], _ => rw [decAt_short (by rw [lead_72]; omega) (by rw [lead_72]; omega) (by rw [lead_72]; simp), ok_short (by simp)]; rfl
  | b :: c :: d :: r, hbs =>
    have hb := hbs b (by simp)
    have hc := hbs c (by simp)
    have hd := hbs d (by simp)
    rw [ok4 ha.1 ha.2 hb.1 hb.2 hc.1 hc.2 hd.1 hd.2]
    by_cases hlow : b < 128 ∨ 191 < b
    · rw [decAt_low (by rw [lead_72]; omega) (by rw [lead_73, lead_74]; exact hlow), if_neg (by simp; omega)]
    · rw [decAt_4 lead_72 (by rw [lead_73]; omega) (by rw [lead_74]; omega)]
      by_cases hc : (128 ≤ b ∧ b ≤ 191) ∧ (128 ≤ c ∧ c ≤ 191) ∧ (128 ≤ d ∧ d ≤ 191)
      · rw [if_pos (by simp [contB]; omega), if_pos (by simp; omega)]
        exact Prod.ext (by simp only [List.take, valueOf] <;> omega) rfl
      · rw [if_neg (by simp [contB]; omega), if_neg (by simp; omega)]
theorem decAt_8_eq {a : Int} {r : List Int} (hbs : ∀ b ∈ a :: r, 0 ≤ b ∧ b ≤ 255) (g0 : 244 ≤ a) (g1 : a ≤ 244) :
    decAt 8 a r = if refOk (a :: r) 4 then (valueOf ((a :: r).take 4), 4) else (65533, 1) := by
  have ha := hbs a (by simp)
  match r, hbs with
  | [], _ => rw [decAt_short (by rw [lead_82]; omega) (by rw [lead_82]; omega) (by rw [lead_82]; simp), ok_short (by simp)]; rfl
  | [b], _ => rw [decAt_short (by rw [lead_82]; omega) (by rw [lead_82]; omega) (by rw [lead_82]; simp), ok_short (by simp)]; rfl
  | [b, c], _ => rw [decAt_short (by rw [lead_82]; omega) (by rw [lead_82]; omega) (by rw [lead_82]; simp), ok_short (by simp)]; rfl
  | b :: c :: d :: r, hbs =>
    have hb := hbs b (by simp)
    have hc := hbs c (by simp)
    have hd := hbs d (by simp)
    rw [ok4 ha.1 ha.2 hb.1 hb.2 hc.1 hc.2 hd.1 hd.2]
    by_cases hlow : b < 128 ∨ 143 < b
    · rw [decAt_low (by rw [lead_82]; omega) (by rw [lead_83, lead_84]; exact hlow), if_neg (by simp; omega)]
    · rw [decAt_4 lead_82 (by rw [lead_83]; omega) (by rw [lead_84]; omega)]
      by_cases hc : (128 ≤ b ∧ b ≤ 191) ∧ (128 ≤ c ∧ c ≤ 191) ∧ (128 ≤ d ∧ d ≤ 191)
      · rw [if_pos (by simp [contB]; omega), if_pos (by simp; omega)]
        exact Prod.ext (by simp only [List.take, valueOf] <;> omega) rfl
      · rw [if_neg (by simp [contB]; omega), if_neg (by simp; omega)]
theorem fin_2 {a : Int} {r : List Int} (hbs : ∀ b ∈ a :: r, 0 ≤ b ∧ b ≤ 255) (o1 : refOk (a :: r) 1 = false) (g0 : 194 ≤ a) (g1 : a ≤ 223) :
    (if refOk (a :: r) 2 then (valueOf ((a :: r).take 2), 2) else (65533, 1)) = refDec (a :: r) := by
  have o3 := ok3_no hbs (by omega)
  have o4 := ok4_no hbs (by omega)
  by_cases h : refOk (a :: r) 2 = true
  · rw [if_pos h, refDec_hit (by omega) (by omega) (fun j h1 h2 => ?_) h]
    · rfl
    rcases (show j = 1 from by omega) with rfl
    · exact o1
  · rw [if_neg h, refDec_miss (by simp) fun j h1 h2 => ?_]
    rcases (show j = 1 ∨ j = 2 ∨ j = 3 ∨ j = 4 from by omega) with rfl | rfl | rfl | rfl
    · exact o1
    · simpa using h
    · exact o3
    · exact o4
theorem fin_3 {a : Int} {r : List Int} (hbs : ∀ b ∈ a :: r, 0 ≤ b ∧ b ≤ 255) (o1 : refOk (a :: r) 1 = false) (g0 : 224 ≤ a) (g1 : a ≤ 239) :
    (if refOk (a :: r) 3 then (valueOf ((a :: r).take 3), 3) else (65533, 1)) = refDec (a :: r) := by
  have o2 := ok2_no hbs (by omega)
  have o4 := ok4_no hbs (by omega)
  by_cases h : refOk (a :: r) 3 = true
  · rw [if_pos h, refDec_hit (by omega) (by omega) (fun j h1 h2 => ?_) h]
    · rfl
    rcases (show j = 1 ∨ j = 2 from by omega) with rfl | rfl
    · exact o1
    · exact o2
  · rw [if_neg h, refDec_miss (by simp) fun j h1 h2 => ?_]
    rcases (show j = 1 ∨ j = 2 ∨ j = 3 ∨ j = 4 from by omega) with rfl | rfl | rfl | rfl
    · exact o1
    · exact o2
    · simpa using h
    · exact o4
theorem fin_4 {a : Int} {r : List Int} (hbs : ∀ b ∈ a :: r, 0 ≤ b ∧ b ≤ 255) (o1 : refOk (a :: r) 1 = false) (g0 : 240 ≤ a) (g1 : a ≤ 244) :
    (if refOk (a :: r) 4 then (valueOf ((a :: r).take 4), 4) else (65533, 1)) = refDec (a :: r) := by
  have o2 := ok2_no hbs (by omega)
  have o3 := ok3_no hbs (by omega)
  by_cases h : refOk (a :: r) 4 = true
  · rw [if_pos h, refDec_hit (by omega) (by omega) (fun j h1 h2 => ?_) h]
    · rfl
    rcases (show j = 1 ∨ j = 2 ∨ j = 3 from by omega) with rfl | rfl | rfl
    · exact o1
    · exact o2
    · exact o3
  · rw [if_neg h, refDec_miss (by simp) fun j h1 h2 => ?_]
    rcases (show j = 1 ∨ j = 2 ∨ j = 3 ∨ j = 4 from by omega) with rfl | rfl | rfl | rfl
    · exact o1
    · exact o2
    · exact o3
    · simpa using h

theorem dec_eq {bs : List Int} (hbs : ∀ b ∈ bs, 0 ≤ b ∧ b ≤ 255) : dec bs = refDec bs := by
  match bs, hbs with
  | [], _ => rfl
  | a :: r, hbs =>
    have ha := hbs a (by simp)
    by_cases h7 : a ≤ 127
    · rw [dec_0 ha.1 h7, refDec_hit (Nat.le_refl 1) (by omega) (fun j h1 h2 => by omega) (by rw [ok1 ha.1 ha.2]; simpa using h7)]
      simp [decAt, lead_02, valueOf]
    have o1 : refOk (a :: r) 1 = false := by rw [ok1 ha.1 ha.2]; simpa using h7
    by_cases hno : a < 194 ∨ 244 < a
    · rw [dec_none (by omega) hno, refDec_miss (by simp)]
      intro j hj1 hj4
      rcases (show j = 1 ∨ j = 2 ∨ j = 3 ∨ j = 4 from by omega) with rfl | rfl | rfl | rfl
      · exact o1
      · exact ok2_no hbs (by omega)
      · exact ok3_no hbs (by omega)
      · exact ok4_no hbs (by omega)
    rcases (show (194 ≤ a ∧ a ≤ 223) ∨ (224 ≤ a ∧ a ≤ 224) ∨ (225 ≤ a ∧ a ≤ 236) ∨ (237 ≤ a ∧ a ≤ 237) ∨ (238 ≤ a ∧ a ≤ 239) ∨ (240 ≤ a ∧ a ≤ 240) ∨ (241 ≤ a ∧ a ≤ 243) ∨ (244 ≤ a ∧ a ≤ 244) from by omega) with ⟨g0, g1⟩ | ⟨g0, g1⟩ | ⟨g0, g1⟩ | ⟨g0, g1⟩ | ⟨g0, g1⟩ | ⟨g0, g1⟩ | ⟨g0, g1⟩ | ⟨g0, g1⟩
    · rw [dec_1 g0 g1, decAt_1_eq hbs g0 g1]
      exact fin_2 hbs o1 (by omega) (by omega)
    · rw [dec_2 g0 g1, decAt_2_eq hbs g0 g1]
      exact fin_3 hbs o1 (by omega) (by omega)
    · rw [dec_3 g0 g1, decAt_3_eq hbs g0 g1]
      exact fin_3 hbs o1 (by omega) (by omega)
    · rw [dec_4 g0 g1, decAt_4_eq hbs g0 g1]
      exact fin_3 hbs o1 (by omega) (by omega)
    · rw [dec_5 g0 g1, decAt_5_eq hbs g0 g1]
      exact fin_3 hbs o1 (by omega) (by omega)
    · rw [dec_6 g0 g1, decAt_6_eq hbs g0 g1]
      exact fin_4 hbs o1 (by omega) (by omega)
    · rw [dec_7 g0 g1, decAt_7_eq hbs g0 g1]
      exact fin_4 hbs o1 (by omega) (by omega)
    · rw [dec_8 g0 g1, decAt_8_eq hbs g0 g1]
      exact fin_4 hbs o1 (by omega) (by omega)
end Go.Proofs.YtgljhhlnnedmaaaDoor
