/- heronlaw12.Owned: lists that came out are their owner's. -/
import Derived.Test.YteiggbbljgkloaaProg
import Derived.Test.YteiggbbljgkloaaOwnG
import Derived.Test.YteiggbbljgkloaaCloneI
import Derived.WalkLawsBesides
import Derived.BigQuiet
import Derived.Deep.QuietTactic
import Derived.Handy
namespace Go.Proofs.Yteiggbbljgkloaa.OwnI
open Go.RowKit Go.Proofs.Yteiggbbljgkloaa.OwnG

def mk (i : Nat) : Value := .int .i64 (-9 - (i : Int))
theorem info_bytes : (Try.prog.info? 25).map (fun i => (i.zero, i.size, i.bytes)) = some (some (.slice none 0 0), 1, 24) := by kernel_rfl
theorem row_cell {K R : Nat} {r : Rws} {w : World} {TT : TypeId} (h : Blk w R TT ((List.range K).map r.v)) {i : Nat} (hi : i < K) : w.cell? ⟨R, i, none⟩ = some (.slice (r.A i) (r.N i) (r.C i)) := by
  rw [h.cell, rows_cell hi]; rfl
theorem wr8 {i : Nat} (h : i < 64) : IntKind.i64.wrap (-9 - (i : Int)) = -9 - (i : Int) := by rw [IntKind.wrap_i64]; omega
theorem tt : 3 ≠ 25 := by decide

set_option maxRecDepth 100000 in
set_option maxHeartbeats 2000000 in
theorem owned_any (K R base : Nat) (r : Rws) (X : Nat → List Value) (w : World) (hK : K ≤ 64) (hN : ∀ j, j < K → r.N j ≤ 8388608) (hb : base ≤ w.heap.size)
    (hR : Blk w R 25 ((List.range K).map r.v)) (hO : ∀ j, j < K → w.ownsRow base 3 1 (r.v j) (r.N j) (X j)) (hap : ∀ a b, a < K → b < K → a ≠ b → Apart (r.v a) (r.v b)) :
    Calls Try.prog 13 #[.slice (some ⟨R, 0, none⟩) K K] w fun e w' => e = .returned (.bool true) ∧ Below base w w' := by
  obtain ⟨i0, hi0, hz0, hz1, hz2⟩ := info_parts int_info
  obtain ⟨j0, hj0, jz0, jz1, jz2⟩ := info_parts info_bytes
  have hst : OI 3 25 mk K R base r X w 0 0 w := OI.start hR hO
  have HN := Lib.hid hN
  have HAP := Lib.hid hap
  clear hR hO hN hap
  go_enter Try.func13, Try.ntmps13
  go_wp2_with fail
  go_loopw [3] (fun i wr => ∃ k : Nat, k ≤ K ∧ i = .int .i64 k ∧ OI 3 25 mk K R base r X w k 0 wr) (fun i _ => K - (intOf i).toNat)
  case atStart => exact ⟨0, Nat.zero_le _, rfl, hst⟩
  case round =>
    obtain ⟨i, hiK, rfl, hoi⟩ := hrel
    by_cases hlt : i < K
    · -- the rows are written full
      obtain ⟨wo, hwo⟩ : ∃ wo : World, wo = wr := ⟨_, rfl⟩
      clear hwo
      have hw8 := wr8 (i := i) (by omega)
      go_wp2_with fail
      go_loopw [4] (fun q wq => ∃ k : Nat, k ≤ r.N i ∧ q = .int .i64 k ∧ OI 3 25 mk K R base r X w i k wq) (fun q _ => r.N i - (intOf q).toNat)
      case atStart => exact ⟨0, Nat.zero_le _, rfl, hoi⟩
      case round =>
        obtain ⟨k, hkN, rfl, hoi⟩ := hrel
        rename_i wq
        have hcR := row_cell hoi.1 hlt
        have hNi := HN.out i hlt
        have HOI := Lib.hid hoi
        by_cases hk : k < r.N i
        · obtain ⟨g, hA, hbg, ⟨u, hcg⟩, hfg, hne⟩ := hoi.at_ tt hlt hk
          rw [hA] at hcR
          have HA := Lib.hid hA
          clear hA hoi hst
          go_wp2_with fail
          go_roundw
          case rel => exact ⟨k + 1, by omega, by go_num, HOI.out.step tt HAP.out hlt hk HA.out⟩
          case measure => simp [intOf]; omega
        · obtain rfl : k = r.N i := by omega
          have HNX := Lib.hid (hoi.next hlt)
          clear hoi hst
          go_wp2_with fail
          go_roundw
          case rel => exact ⟨i + 1, by omega, by go_num, HNX.out⟩
          case measure => simp [intOf]; omega
    · -- they grow
      obtain rfl : K = i := by omega
      have hol : OL 3 25 mk 5 1 K R base r w 0 (.slice none 0 0) [] wr := OL.start hoi
      clear hoi hst hiK hlt
      go_wp2_with fail
      go_loopw [5, 6] (fun long p wq => ∃ (k : Nat) (gs : List Value), k ≤ K ∧ p = .int .i64 k ∧ OL 3 25 mk 5 1 K R base r w k long gs wq) (fun _ p _ => K - (intOf p).toNat)
      case atStart => exact ⟨0, [], Nat.zero_le _, rfl, hol⟩
      case round =>
        obtain ⟨q, gs, hq, rfl, hol⟩ := hrel
        by_cases hlt : q < K
        · have hcR := row_cell hol.1 hlt
          have hog := OG.start HAP.out hol hlt
          have hNq := HN.out q hlt
          obtain ⟨long, hlong⟩ : ∃ long, long = u5 := ⟨_, rfl⟩
          rw [← hlong] at hog
          have hw8 := wr8 (i := q) (by omega)
          clear hol
          go_wp2_with fail
          go_loopw [7, 8] (fun g p wq => ∃ k : Nat, k ≤ 5 ∧ p = .int .i64 k ∧ OG 3 25 mk 5 1 K R base r w q long gs k g wq) (fun _ p _ => 5 - (intOf p).toNat)
          case atStart => exact ⟨0, Nat.zero_le _, rfl, hog⟩
          case round =>
            obtain ⟨k, hk, rfl, hog⟩ := hrel
            have hbs : base ≤ wr.heap.size := Nat.le_trans hb hog.1.2.2.2.2.size
            have hgo := hog.2.2.1
            have HOG := Lib.hid hog
            by_cases hk4 : k < 5
            · clear hog
              go_wp2_with (at_builtin; refine wpList_append_keep _ rfl (.tmp 48) (.tmp 51) 25 rfl base 3 i0 (.int .i64 0) 1 8 Try.underlying25 hi0 hz0 hz1 hz2 rfl (by decide) u7 (r.N q + k) (List.replicate (r.N q + k) (mk q)) rfl (hgo.alloc _) ⟨wr.heap.size, 0, none⟩ 1 1 [.int .i64 (-9 - (q : Int))] rfl rfl (cell_one_new _ _ _) (by simp [Value.oneCell']) (by unfold maxLen; omega) (by omega) (by simp; omega) ?_; intro v1 w1 ha1)
              have hs := HOG.out.step tt hlt hbs ha1
              go_roundw
              case rel => exact ⟨k + 1, by omega, by go_num, hs.1⟩
              case measure => simp [intOf]; omega
            · obtain rfl : k = 5 := by omega
              obtain ⟨gA, gc, hg7⟩ := hog.2.1
              subst hg7
              have hlo := hog.1.2.2.1.1
              have hcR := row_cell hog.1.1 hlt
              clear hog
              subst hlong
              go_wp2_with (at_builtin; refine wpList_append_keep _ rfl (.tmp 53) (.tmp 59) 40 rfl base 25 j0 (.slice none 0 0) 1 24 Try.underlying40 hj0 jz0 jz1 jz2 rfl (by decide) _ (2 * q) gs rfl (hlo.alloc _) ⟨wr.heap.size, 0, none⟩ 2 2 [.slice (r.A q) (r.N q) (r.C q), .slice gA (r.N q + 5) gc] rfl rfl (cell_two_new _ _ _ _) (by simp [Value.oneCell']) (by unfold maxLen; omega) (by omega) (by simp; omega) ?_; intro v1 w1 ha1)
              have hs := OL.next tt HOG.out hlt hbs (.inr ⟨rfl, rfl⟩) ha1
              go_wp2_with fail
              go_roundw
              case rel => exact ⟨q + 1, _, by omega, by go_num, hs⟩
              case measure => simp [intOf]; omega
        · -- and all read so
          obtain rfl : K = q := by omega
          clear hlt hq
          have HOL := Lib.hid hol
          obtain ⟨LA, lc, hl5⟩ := own_shape hol.2.2.1.1
          subst hl5
          clear hol
          go_wp2_with fail
          go_loopw [9] (fun p wq => ∃ (k m : Nat), k ≤ 2 * K ∧ p = .int .i64 k ∧ wq = wr.drewN m) (fun p _ => 2 * K - (intOf p).toNat)
          case atStart => exact ⟨0, 0, Nat.zero_le _, rfl, rfl⟩
          case round =>
            obtain ⟨q, m, hq, rfl, rfl⟩ := hrel
            by_cases hlt : q < 2 * K
            · obtain ⟨gA, gn, gc, hgv, hgo, hgn⟩ := HOL.out.at_ (.inr rfl) hlt
              have hlo := HOL.out.2.2.1.1
              obtain ⟨lg, rfl, _, _, _⟩ := own_form hlo (by omega)
              have hcL : wr.cell? ⟨lg, q, none⟩ = some (.slice gA gn gc) := by rw [hlo.cellAt q (by omega), hgv]
              have hNq := HN.out (q / 2) (by omega)
              have hw8 : IntKind.i64.wrap (-9 - (q : Int) / 2) = -9 - (q : Int) / 2 := by rw [IntKind.wrap_i64]; omega
              have HGO := Lib.hid hgo
              clear hgv hlo hgo
              go_wp2_with fail
              go_loopw [10] (fun p wq => ∃ (k m : Nat), k ≤ gn ∧ p = .int .i64 k ∧ wq = wr.drewN m) (fun p _ => gn - (intOf p).toNat)
              case atStart => exact ⟨0, m, Nat.zero_le _, rfl, rfl⟩
              case round =>
                obtain ⟨k, m', hk, rfl, rfl⟩ := hrel
                by_cases hkl : k < gn
                · obtain ⟨ga, rfl, _, _, _⟩ := own_form HGO.out (by omega)
                  have hcg : wr.cell? ⟨ga, k, none⟩ = some (.int .i64 (-9 - (q : Int) / 2)) := by
                    rw [HGO.out.cellAt k (by omega), List.getElem?_replicate, if_pos hkl]; simp [mk]
                  have hne0 : ((-9 - (q : Int) / 2) != (-9 - (q : Int) / 2)) = false := by simp
                  go_wp2_with fail
                  go_roundw
                  case rel => exact ⟨k + 1, _, by omega, by go_num, rfl⟩
                  case measure => simp [intOf]; omega
                · obtain rfl : k = gn := by omega
                  go_wp2_with fail
                  go_roundw
                  case rel => exact ⟨q + 1, _, by omega, by go_num, rfl⟩
                  case measure => simp [intOf]; omega
            · obtain rfl : 2 * K = q := by omega
              go_wp2_with fail
              go_ret
              exact ⟨rfl, bdrewN HOL.out.2.2.2.2 _⟩
end Go.Proofs.Yteiggbbljgkloaa.OwnI
