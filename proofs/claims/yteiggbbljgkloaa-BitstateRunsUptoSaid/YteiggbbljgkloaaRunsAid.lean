/- BitstateRuns: words and aids for its walk. -/
import Derived.Test.YteiggbbljgkloaaRefRun
import Derived.Test.YteiggbbljgkloaaKeptP
import Derived.Test.YteiggbbljgkloaaOwned
import Derived.Test.YteiggbbljgkloaaGRows
import Derived.Test.YteiggbbljgkloaaAwake12
namespace Go.Proofs.Yteiggbbljgkloaa
open Go.RowKit Go.Proofs.Yteiggbbljgkloaa.Mach Go.Proofs.Yteiggbbljgkloaa.OwnG

theorem search_caps {p : Prg} {t : List Int} {k0 : Nat} {anch : Bool} (hc : checkB p = true) (hat : k0 ≤ t.length) : ∀ (n b : Nat) (met : List Bool) (steps : Nat), k0 ≤ b → b + n ≤ t.length + 1 → met.length = p.insts.length * places t k0 → steps + met.count false ≤ met.length →
    ∀ cs w, (search p t k0 anch n b met steps).1 = some (cs, w) → cs.length = p.caps.toNat
  | 0, _, _, _, _, _, _, _, cs, w, h => by simp [search] at h
  | n + 1, b, met, steps, h1, h2, h3, h4, cs, w, h => by
    have hok := Ok.iter_ (p := p) (t := t) (at_ := k0) hc (meas (begin_ p b met steps)) _ (Ok.start hc hat ⟨h1, by omega⟩ h3 h4)
    change Ok p t k0 (final p t k0 (begin_ p b met steps)) at hok
    rw [search] at h
    cases hf : (final p t k0 (begin_ p b met steps)).fin with
    | some x =>
      rw [hf] at h
      simp only [Option.some.injEq, Prod.mk.injEq] at h
      rw [← h.1]; exact hok.caps
    | none =>
      rw [hf] at h
      simp only [] at h
      split at h
      · cases h
      · exact search_caps hc hat n (b + 1) _ _ (by omega) (by omega) hok.met hok.steps cs w h
theorem capsOf_le (p : Prg) (t : List Int) (a : Int) (anch : Bool) : (capsOf (runR p t a anch)).length ≤ 1002 := by
  unfold runR
  split
  · simp [capsOf]
  · split
    · simp [capsOf]
    · rename_i hc
      rw [Bool.not_eq_false] at hc
      split
      · simp [capsOf]
      · split
        · simp [capsOf]
        · rename_i ha hb
          unfold capsOf
          simp only []
          cases hs : (search p t a.toNat anch (t.length + 1 - a.toNat) a.toNat (List.replicate (p.insts.length * places t a.toNat) false) 0).1 with
          | none => simp
          | some x =>
            obtain ⟨cs, wh⟩ := x
            have := search_caps (anch := anch) hc (show a.toNat ≤ t.length by omega) (t.length + 1 - a.toNat) a.toNat _ 0 (Nat.le_refl _) (by omega) (by simp) (by simp) cs wh hs
            have h2 := (head_of hc).2.2.2.2
            simp only [Option.elim_some]
            omega
/-- What Run gives, part by part. -/
def RP5 (B : Nat) (w : World) (b : Bool) (wh st er : Int) (l : List Int) (e : Ending) (w' : World) : Prop :=
  ∃ A c, e = .returned (.tuple #[.agg #[.bool b, .slice A l.length c, .int .i64 wh, .int .i64 st], .int .i64 er]) ∧ w'.ownsRow B 3 1 (.slice A l.length c) l.length (l.map (Value.int .i64)) ∧ Below B w w'
theorem RP5.of {B : Nat} {w : World} {r : Int × Option (List Int × Int) × Nat} {e : Ending} {w' : World} (h : RunPost B w r e w') : RP5 B w r.2.1.isSome (r.2.1.elim 0 (·.2)) (r.2.2 : Int) r.1 (capsOf r) e w' := by
  obtain ⟨cv, h1, h2, h3⟩ := h
  obtain ⟨A, c, rfl⟩ := own_shape h2
  exact ⟨A, c, h1, h2, h3⟩
section
variable {w w' : World} {B g gU : Nat} {L L' : List InV}
theorem LentPr.kept (h : LentPr w B g L L') (k : Kept w w' [gU]) {cs : List Value} (hU : Blk w gU 3 cs) : LentPr w' B g L L' :=
  ⟨h.len, h.row.kept k (by rw [List.mem_singleton]; exact h.row.ne_ hU (by decide)), h.lo, fun v hv => (h.each v hv).kept k hU (by decide)⟩
theorem GRows.keptLow {T : TypeId} {R : List GRow} (h : GRows T B w R) (k : Kept w w' [gU]) (hU : gU < B) : GRows T B w' R :=
  ⟨fun r hr => own_kept (h.1 r hr) k (fun b hb hm => by
    have := ((h.1 r hr).lt b hb).1
    rw [List.mem_singleton] at hm
    omega), h.2⟩
end
theorem lent_ex (A : Option Addr) (n c : Nat) (L : List InV) (start caps : Int) (w : World) (hr : ReadsP w w.heap.size A n c L) (hn : n ≤ 1048576) (hns : ∀ v ∈ L, v.n ≤ 1048576) :
    Calls Try.prog 7 #[.agg #[.slice A n c, .int .i64 start, .int .i64 caps]] w fun e w' =>
      ∃ g L', e = .returned (.agg #[.slice (some ⟨g, 0, none⟩) n (n + 1), .int .i64 start, .int .i64 caps]) ∧ Below w.heap.size w w' ∧ LentPr w' w.heap.size g L L' :=
  (lentP_any A n c L start caps w hr hn hns).mono fun _ _ ⟨h1, h2, L', h3⟩ => ⟨_, L', h1, h2, h3⟩
theorem lentT_ex (A : Option Addr) (n c B : Nat) (t : List Int) (w : World) (hr : Reads w B 1 A n c (t.map (Value.int .i64))) (hB : B ≤ w.heap.size) (hn : n ≤ 1048576) :
    Calls Try.prog 8 #[.slice A n c] w fun e w' => ∃ g, e = .returned (.slice (some ⟨g, 0, none⟩) n (n + 2)) ∧ Below w.heap.size w w' ∧ w.heap.size ≤ g ∧ Blk w' g 3 ((t ++ [-71, -72]).map (Value.int .i64)) :=
  (lentT_any A n c B t w hr hB hn).mono fun _ _ ⟨h1, h2, h3⟩ => ⟨_, h1, h3, Nat.le_refl _, h2⟩
theorem LentPr.small {w : World} {B g : Nat} {L L' : List InV} (h : LentPr w B g L L') {w0 : World} {B0 n c : Nat} {A : Option Addr} (hr : ReadsP w0 B0 A n c L) (hns : ∀ v ∈ L, v.n ≤ 1048576) : ∀ v ∈ L', v.n ≤ 1048576 := by
  intro v hv
  have h1 := (h.each v hv).1
  have hi : v.I ∈ insL L := by rw [← h.len]; exact List.mem_map.2 ⟨v, hv, rfl⟩
  obtain ⟨u, hu, e⟩ := List.mem_map.1 hi
  have := hns u hu
  have h2 := (hr.2 u hu).1.len
  rw [flat_length, e] at h2
  omega
/-- A lent text reads as it did. -/
theorem text_reads {w : World} {g nt : Nat} {t : List Int} (h : Blk w g 3 ((t ++ [-71, -72]).map (Value.int .i64))) (hl : t.length = nt) (hn : nt ≤ 1048576) : Reads w w.heap.size 1 (some ⟨g, 0, none⟩) nt (nt + 2) (t.map (Value.int .i64)) := by
  have := h.reads (size := 1) (n := nt) (c := nt + 2) (by omega) (by omega) (by simp [hl])
  rw [List.map_append, List.take_left' (by simp [hl])] at this
  exact this
/-- A rune turned. -/
def flip (x : Int) : Int := if x = 97 then 98 else 97
end Go.Proofs.Yteiggbbljgkloaa
