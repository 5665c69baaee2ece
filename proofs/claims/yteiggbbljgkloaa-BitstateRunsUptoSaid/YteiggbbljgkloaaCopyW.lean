/- copy of a slice whose elements have more than one cell. No program here. -/
import Derived.Test.YteiggbbljgkloaaMem2
import Derived.Laws.CopyOwn
import Derived.Lib.SlBuf
namespace Go.Proofs.Yteiggbbljgkloaa
open Go.RowKit

theorem run_copy_wide {P : Program} (w : World) (dT sT ty elem : TypeId) (g o dLen dCap size : Nat) (sp : Option Addr) (sLen sCap : Nat) (cur : List Value) (t : TypeId) (cs : List Value)
    (hu : P.underlying dT = some (.slice elem)) (hs : (P.info? elem).map (·.size) = some size)
    (hg : w.heap[g]? = some (.cells cur.toArray t (0, 0))) (hn : cs.length = Nat.min sLen dLen * size)
    (hsrc : 0 < cs.length → ∃ ad, sp = some ad ∧ ∀ j v, cs[j]? = some v → w.cell? (ad.add j) = some v) (hfit : o + cs.length ≤ cur.length) (h1 : ∀ v ∈ cs, v.oneCell' = true) :
    (Builtin.copy_ #[dT, sT] ty #[.slice (some ⟨g, o, none⟩) dLen dCap, .slice sp sLen sCap]).run P w =
      .ok (goInt (Nat.min sLen dLen)) (w.setRow g (splice cur o cs).toArray) := by
  cases hq : P.info? elem with
  | none => simp [hq] at hs
  | some i =>
    have hi : i.size = size := by simpa [hq] using hs
    have hst := run_storeCells_at P g o t cs 0 cur.toArray w hg (by simpa using hfit) h1
    cases sp with
    | none =>
      have h0 : cs = [] := by
        rcases Nat.eq_zero_or_pos cs.length with h | h
        · exact List.eq_nil_of_length_eq_zero h
        · obtain ⟨_, h, _⟩ := hsrc h; cases h
      subst h0
      have he : w.setRow g (splice cur o []).toArray = w := by
        have : splice cur o [] = cur := by simp [splice]
        rw [this]
        exact setRow_self w g cur.toArray t (0, 0) hg
      rw [he]
      simp [Builtin.copy_, run_underlying hu, Builtin.lenOf, Builtin.firstCells, sizeOf, typeInfo, hq, storeCells]
    | some a =>
      have hl := run_loadCells_list (P := P) w a cs (by
        rcases Nat.eq_zero_or_pos cs.length with h | h
        · have := List.eq_nil_of_length_eq_zero h; subst this; simp
        · obtain ⟨ad, h2, h3⟩ := hsrc h
          obtain rfl := Option.some.inj h2
          exact h3)
      simp [Builtin.copy_, run_underlying hu, Builtin.lenOf, Builtin.firstCells, sizeOf, typeInfo, hq, hi, ← hn, hl, hst, splice]

theorem wpList_copy_wide {P : Program} {w : World} {ops : Array Oper} {rest : List Oper} {o : Oper} {a : Act} {Q : Exit → Act → World → Prop} (hgd : o.guard = none) (d s : Operand) (dT sT : TypeId)
    (ho : o.op = .call { callee := .builtin .copy, args := #[d, s], argTypes := #[dT, sT] }) (elem : TypeId) (size : Nat) (hu : P.underlying dT = some (.slice elem)) (hsz : (P.info? elem).map (·.size) = some size)
    (sp : Option Addr) (g off dLen dCap sLen sCap : Nat) (hd : a.eval d = .slice (some ⟨g, off, none⟩) dLen dCap) (hs : a.eval s = .slice sp sLen sCap)
    (cur : List Value) (t : TypeId) (hg : w.heap[g]? = some (.cells cur.toArray t (0, 0))) (cs : List Value) (hn : cs.length = Nat.min sLen dLen * size)
    (hsrc : 0 < cs.length → ∃ ad, sp = some ad ∧ ∀ j v, cs[j]? = some v → w.cell? (ad.add j) = some v)
    (hfit : off + cs.length ≤ cur.length) (h1 : ∀ v ∈ cs, v.oneCell' = true)
    (h : ∀ w', Blk w' g t (splice cur off cs) → Below g w w' → w'.heap.size = w.heap.size → wpList P ops Q rest (a.put o.dst (goInt (Nat.min sLen dLen))) w') :
    wpList P ops Q (o :: rest) a w := by
  refine Lib.wpList_copy_run w hgd d s dT sT ho _ _ hd hs (run_copy_wide w dT sT o.type elem g off dLen dCap size sp sLen sCap cur t cs hu hsz hg hn hsrc hfit h1) ?_
  refine h _ ?_ (below_setRow (Below.refl _ _) (Nat.le_refl _) _) (by simp)
  have := setRow_heap w g cur.toArray (splice cur off cs).toArray t _ hg
  exact this
end Go.Proofs.Yteiggbbljgkloaa
