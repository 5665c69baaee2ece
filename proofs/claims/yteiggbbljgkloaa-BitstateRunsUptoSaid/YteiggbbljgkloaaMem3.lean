/- Words for memory: append onto a row of the call's own, which stays readable through the elder slice. No program here. -/
import Derived.Test.YteiggbbljgkloaaMem2
namespace Go.Proofs.Yteiggbbljgkloaa
open Go.RowKit

/-- What an append of m elements onto v leaves. -/
structure Appended (base : Nat) (e : TypeId) (size : Nat) (v v' : Value) (n m : Nat) (xs news : List Value) (w w' : World) : Prop where
  own : w'.ownsRow base e size v' (n + m) (xs ++ news)
  keep : w'.ownsRow base e size v n xs
  grown : w.grownBy w' v.ownBlock
  at_ : v'.ownBlock = v.ownBlock ∨ v'.ownBlock = some w.heap.size

section
variable {P : Program} (w : World)
theorem run_append_keep (base : Nat) (t ty e : TypeId) (i : TypeInfo) (z : Value) (size bytes : Nat) (ht : P.underlying t = some (.slice e)) (hi : P.info? e = some i) (hz : i.zero = some z)
    (hsize : i.size = size) (hby : i.bytes = bytes) (hzs : z.cells.size = size) (hsz : 0 < size)
    (v : Value) (n : Nat) (xs : List Value) (hown : w.ownsRow base e size v n xs)
    (a : Addr) (m c : Nat) (news : List Value) (hl : news.length = m * size) (hnews : ∀ j u, news[j]? = some u → w.cell? (a.add j) = some u) (h1 : ∀ u ∈ news, u.oneCell' = true)
    (h63 : n + m ≤ maxLen) (hbytes : (n + m) * bytes ≤ 140737488355328) (hbase : base ≤ w.heap.size) :
    ∃ v' w', (Builtin.append_ #[t, t] ty #[v, .slice (some a) m c]).run P w = .ok v' w' ∧ Appended base e size v v' n m xs news w w' := by
  obtain ⟨v', w', hrun, ho, hg, _, hat⟩ := run_append_own_at (P := P) w base t ty e i z size bytes ht hi hz hsize hby hzs hsz v n xs hown a m c news hl hnews h1 h63 hbytes hbase
  refine ⟨v', w', hrun, ho, ?_, hg, hat⟩
  subst hsize
  subst hby
  have hsmall : n + m ≤ 9223372036854775807 := by simp only [maxLen] at h63; omega
  rcases hown.2 with ⟨rfl, rfl⟩ | ⟨g, cap, cur, rfl, hbg, hgg, hnc, hcm, hcs, htake⟩
  · exact ⟨hown.1, .inl ⟨rfl, rfl⟩⟩
  · by_cases hroom : n + m ≤ cap
    · have hfit : n * i.size + news.length ≤ cur.size := by rw [hl, hcs, ← Nat.add_mul]; exact Nat.mul_le_mul_right _ hroom
      have hr := run_append_room (P := P) w t ty e i ht hi g n cap cur hgg a m c news hl hnews h1 hroom hfit
      rw [hr] at hrun
      injection hrun with _ hw
      subst hw
      refine ⟨hown.1, .inr ⟨g, cap, _, rfl, hbg, setRow_heap w g cur _ e _ hgg, hnc, hcm, ?_, ?_⟩⟩
      · simp only [List.size_toArray, List.length_append, List.length_take, List.length_drop, Array.length_toList]
        omega
      · rw [htake]
        have hxl := hown.1
        simp only [List.append_assoc]
        rw [← hxl]
        exact List.take_left
    · have holds : ∀ j u, xs[j]? = some u → w.cell? ((⟨g, 0, none⟩ : Addr).add j) = some u := hown.cells (g := g) rfl
      have hr := run_append_grow (P := P) w t ty e i z ht hi hz ⟨g, 0, none⟩ n cap xs hown.1 holds a m c news hl hnews (by omega) (by omega) (growslice_fits (by omega) hbytes)
      rw [hr] at hrun
      injection hrun with _ hw
      subst hw
      exact World.ownsRow.alloc (World.ownsRow.drew hown) _

theorem wpList_append_keep {ops : Array Oper} {rest : List Oper} {o : Oper} {a : Act} {Q : Exit → Act → World → Prop} (hgd : o.guard = none) (s x : Operand) (t : TypeId)
    (ho : o.op = .call { callee := .builtin .append, args := #[s, x], argTypes := #[t, t] })
    (base : Nat) (e : TypeId) (i : TypeInfo) (z : Value) (size bytes : Nat) (ht : P.underlying t = some (.slice e)) (hi : P.info? e = some i) (hz : i.zero = some z)
    (hsize : i.size = size) (hby : i.bytes = bytes) (hzs : z.cells.size = size) (hsz : 0 < size)
    (v : Value) (n : Nat) (xs : List Value) (hs : a.eval s = v) (hown : w.ownsRow base e size v n xs)
    (ad : Addr) (m c : Nat) (news : List Value) (hx : a.eval x = .slice (some ad) m c) (hl : news.length = m * size) (hnews : ∀ j u, news[j]? = some u → w.cell? (ad.add j) = some u) (h1 : ∀ u ∈ news, u.oneCell' = true)
    (h63 : n + m ≤ maxLen) (hbytes : (n + m) * bytes ≤ 140737488355328) (hbase : base ≤ w.heap.size)
    (h : ∀ v' w', Appended base e size v v' n m xs news w w' → wpList P ops Q rest (a.put o.dst v') w') :
    wpList P ops Q (o :: rest) a w := by
  refine wpList_plain hgd fun K hK => ?_
  obtain ⟨v', w', hr, h2⟩ := run_append_keep (P := P) w base t o.type e i z size bytes ht hi hz hsize hby hzs hsz v n xs hown ad m c news hl hnews h1 h63 hbytes hbase
  unfold Oper.wp execOp
  simp only [ho, resolve, invoke, builtin, Sem.run_bind, Sem.run_pure, Result.andThen_ok, List.map_toArray, List.map_cons, List.map_nil, hs, hx, hr]
  exact hK _ _ (h v' w' h2)
end

/-- A slice of the same row keeps what it owned where a longer one keeps it. -/
theorem own_prefix {w w' : World} {base : Nat} {e : TypeId} {size : Nat} {v g : Value} {n m : Nat} {xs ys : List Value} (hsz : 0 < size) (hv : w.ownsRow base e size v n xs) (hg : w.ownsRow base e size g m ys)
    (hat : v.ownBlock = g.ownBlock) (hnm : n ≤ m) (hg' : w'.ownsRow base e size g m ys) : w'.ownsRow base e size v n xs := by
  rcases hv.2 with ⟨rfl, rfl⟩ | ⟨b, cap, cur, rfl, hb, hh, hnc, hcm, hcs, ht⟩
  · exact ⟨hv.1, .inl ⟨rfl, rfl⟩⟩
  · rcases hg.2 with ⟨rfl, _⟩ | ⟨b2, cap2, cur2, rfl, hb2, hh2, hnc2, hcm2, hcs2, ht2⟩
    · simp [Value.ownBlock] at hat
    · obtain rfl : b = b2 := by simpa [Value.ownBlock] using hat
      rw [hh] at hh2
      injection hh2 with hh2
      injection hh2 with hcur
      subst hcur
      have hcap : cap = cap2 := Nat.eq_of_mul_eq_mul_right hsz (hcs.symm.trans hcs2)
      subst hcap
      rcases hg'.2 with ⟨h, _⟩ | ⟨b3, cap3, cur3, h3, hb3, hh3, hnc3, hcm3, hcs3, ht3⟩
      · simp at h
      · simp only [Value.slice.injEq, Option.some.injEq, Addr.mk.injEq, and_true, true_and] at h3
        obtain ⟨rfl, rfl⟩ := h3
        refine ⟨hv.1, .inr ⟨b, cap, cur3, rfl, hb, hh3, hnc, hcm, hcs3, ?_⟩⟩
        have hm : n * size ≤ m * size := Nat.mul_le_mul_right _ hnm
        have e1 : cur3.toList.take (n * size) = (cur3.toList.take (m * size)).take (n * size) := by rw [List.take_take, Nat.min_eq_left hm]
        have e2 : cur.toList.take (n * size) = (cur.toList.take (m * size)).take (n * size) := by rw [List.take_take, Nat.min_eq_left hm]
        rw [e1, ht3, ← ht, e2, ht2]

/-- Owned rows of different element types lie apart. -/
theorem apart_types {w : World} {base base' : Nat} {e e' : TypeId} {size size' : Nat} {u v : Value} {n m : Nat} {xs ys : List Value} (hu : w.ownsRow base e size u n xs) (hv : w.ownsRow base' e' size' v m ys) (hne : e ≠ e') : Apart u v := by
  rcases hu.2 with ⟨rfl, _⟩ | ⟨b, cap, cur, rfl, _, hh, _⟩
  · exact .inl rfl
  · rcases hv.2 with ⟨rfl, _⟩ | ⟨b', cap', cur', rfl, _, hh', _⟩
    · exact .inr (by simp [Value.ownBlock])
    · refine .inr fun h => ?_
      obtain rfl : b = b' := by simpa [Value.ownBlock] using h
      rw [hh] at hh'
      injection hh' with hh'
      injection hh' with _ ht
      exact hne ht
theorem blk_apart {w : World} {base : Nat} {e t : TypeId} {size : Nat} {v : Value} {n g : Nat} {xs cs : List Value} (hv : w.ownsRow base e size v n xs) (hg : Blk w g t cs) (hne : e ≠ t) : some g ≠ v.ownBlock := by
  rcases hv.2 with ⟨rfl, _⟩ | ⟨b, cap, cur, rfl, _, hh, _⟩
  · simp [Value.ownBlock]
  · intro h
    obtain rfl : g = b := by simpa [Value.ownBlock] using h
    unfold Blk at hg
    rw [hh] at hg
    injection hg with hg
    injection hg with _ ht
    exact hne ht
theorem ownsRow_kept {w w' : World} {base : Nat} {e : TypeId} {size : Nat} {u v : Value} {n : Nat} {xs : List Value} (h : w.ownsRow base e size u n xs) (hg : w.grownBy w' v.ownBlock) (hap : Apart u v) : w'.ownsRow base e size u n xs := h.kept hg hap
theorem own_form {w : World} {base : Nat} {e : TypeId} {size : Nat} {A : Option Addr} {n n' c : Nat} {xs : List Value} (h : w.ownsRow base e size (.slice A n' c) n xs) (hn : 0 < n) : ∃ g, A = some ⟨g, 0, none⟩ ∧ n' = n ∧ base ≤ g ∧ g < w.heap.size := by
  rcases h.2 with ⟨_, h0⟩ | ⟨g, cap, cur, hv, hb, hh, _⟩
  · omega
  · simp only [Value.slice.injEq] at hv
    exact ⟨g, hv.1, hv.2.1, hb, (Array.getElem?_eq_some_iff.1 hh).1⟩
theorem own_shape {w : World} {base : Nat} {e : TypeId} {size : Nat} {v : Value} {n : Nat} {xs : List Value} (h : w.ownsRow base e size v n xs) : ∃ A c, v = .slice A n c := by
  rcases h.2 with ⟨rfl, rfl⟩ | ⟨g, cap, cur, rfl, _⟩
  · exact ⟨_, _, rfl⟩
  · exact ⟨_, _, rfl⟩
end Go.Proofs.Yteiggbbljgkloaa
