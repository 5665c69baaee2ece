/- meaning.walker.once: the map of marks. -/
import Derived.Test.YtjeljlgjkjeloaaQTree
import Derived.Test.YtjeljlgjkjeloaaQMean
import Derived.Maps.Own
import Derived.WideKeyEntry
import Derived.LaidEql
import Derived.BigQuiet
import Derived.Deep.QuietTactic
import Derived.Deep.RegionHeldLaw
import Derived.Test.YtjeljlgjkjeloaaQFlat
namespace Go.Proofs.Ytjeljlgjkjeloaa
open Go.RowKit

/-- A mark as a key. -/
def kv (m : Mean.Mark) : Value := .agg #[.pointer (some ⟨m.1, 0, none⟩), .int .i64 (m.2.1 : Int), .bool m.2.2]
theorem kv_inj {m m' : Mean.Mark} (h : kv m = kv m') : m = m' := by
  obtain ⟨a, b, c⟩ := m; obtain ⟨a', b', c'⟩ := m'
  simp only [kv, Value.agg.injEq, Array.mk.injEq, List.cons.injEq, Value.pointer.injEq, Option.some.injEq, Addr.mk.injEq, Value.int.injEq, Value.bool.injEq, and_true, true_and] at h
  obtain ⟨rfl, h2, rfl⟩ := h
  have : b = b' := by omega
  subst this; rfl

theorem equal_ptr (w : World) {b b' : Nat} {cs cs' : Array Value} {t t' : TypeId} (h : w.heap[b]? = some (Obj.cells cs t (0, 0))) (h' : w.heap[b']? = some (Obj.cells cs' t' (0, 0))) (n : Nat) :
    (Op.equalIn (n + 1) 59 (.pointer (some ⟨b, 0, none⟩)) (.pointer (some ⟨b', 0, none⟩))).run Try.prog w = .ok (decide (b = b')) w := by
  rw [Op.equalIn]
  simp only [Sem.run_bind, run_underlying Try.underlying59, Result.andThen_ok]
  simp [go_sem]
  by_cases e : b = b'
  · subst e
    rw [run_sameAddr_same]; simp
  · rw [run_sameAddr_other w (by simp) h h']; simp [e]
theorem equal_kv (w : World) {m m' : Mean.Mark} {cs cs' : Array Value} {t t' : TypeId} (h : w.heap[m.1]? = some (Obj.cells cs t (0, 0))) (h' : w.heap[m'.1]? = some (Obj.cells cs' t' (0, 0))) :
    (Op.equal 80 (kv m) (kv m')).run Try.prog w = .ok (decide (m = m')) w := by
  unfold Op.equal Op.maxDepth kv
  rw [Op.equalIn]
  have hst : Try.prog.stoodInHeld 80 = false := by kernel_rfl
  have hp := equal_ptr w h h' 9998
  simp only [Sem.run_bind, run_underlying Try.underlying80, Result.andThen_ok]
  simp [go_sem, hst, hp]
  obtain ⟨a, b, c⟩ := m; obtain ⟨a', b', c'⟩ := m'
  by_cases e1 : a = a'
  · by_cases e2 : b = b'
    · by_cases e3 : c = c'
      · simp [e1, e2, e3]
      · simp [e1, e2, e3]
    · have : ¬ ((b : Int) = (b' : Int)) := by omega
      simp [e1, e2, this]
  · simp [e1]
theorem check_plain (w : World) (em : Bool) (n : Nat) (u : TypeId) (d : TypeDesc) (v : Value) (hu : Try.prog.underlying u = some d) (h1 : ∀ i, d ≠ .interface i) (h2 : ∀ i j, d ≠ .array i j) (h3 : ∀ i, d ≠ .struct i) : (Instr.checkKey em (n + 1) u v).run Try.prog w = .ok () w := by
  rw [Instr.checkKey]
  simp only [Sem.run_bind, run_underlying hu, Result.andThen_ok]
  split
  · exact (h1 _ rfl).elim
  · exact (h2 _ _ rfl).elim
  · exact (h3 _ rfl).elim
  · exact (h1 _ rfl).elim
  · exact (h1 _ rfl).elim
  · exact (h2 _ _ rfl).elim
  · exact (h3 _ rfl).elim
  · rw [Sem.run_pure]
theorem check_kv' (w : World) (em : Bool) (n : Nat) (m : Mean.Mark) : (Instr.checkKey em (n + 1 + 1) 80 (kv m)).run Try.prog w = .ok () w := by
  unfold kv
  have e1 := fun v => check_plain w em n 59 _ v Try.underlying59 (by simp) (by simp) (by simp)
  have e2 := fun v => check_plain w em n 3 _ v Try.underlying3 (by simp) (by simp) (by simp)
  have e3 := fun v => check_plain w em n 4 _ v Try.underlying4 (by simp) (by simp) (by simp)
  rw [Instr.checkKey]
  simp only [Sem.run_bind, run_underlying Try.underlying80, Result.andThen_ok]
  simp [go_sem, e1, e2, e3]
theorem check_kv (w : World) (em : Bool) (m : Mean.Mark) : (Instr.checkKey em 10000 80 (kv m)).run Try.prog w = .ok () w := check_kv' w em 9998 m
theorem bits_kv (n : Nat) (m : Mean.Mark) : Instr.sameBits (n + 1) (kv m) (kv m) = true := by
  unfold kv
  simp [Instr.sameBits]
theorem stays_kv (w : World) (m : Mean.Mark) : (Instr.keyThatStays (kv m) (kv m)).run Try.prog w = .ok (kv m) w := by
  unfold Instr.keyThatStays
  have := bits_kv 9999 m
  rw [show (9999 + 1 : Nat) = 10000 from rfl] at this
  rw [if_pos this]; rfl

/-- The map: how often each mark was come to. -/
structure MapOk (N : Nat → Prop) (es : Array MapEntry) (clock : Nat) (met : Mean.Mark → Nat) : Prop where
  stamped : MapKept.Stamped es clock
  reads : ∀ e ∈ es.toList, ∃ m, e.key = kv m ∧ N m.1 ∧ e.val = .int .i64 (met m : Int)
  has : ∀ m, 0 < met m → ∃ e ∈ es.toList, e.key = kv m
theorem find_kv (w : World) {N : Nat → Prop} (hN : ∀ b, N b → ∃ cs t, w.heap[b]? = some (Obj.cells cs t (0, 0))) {m : Mean.Mark} (hm : N m.1) : ∀ (es : List MapEntry) (i : Nat), (∀ e ∈ es, ∃ m, e.key = kv m ∧ N m.1) →
    ((Instr.findAsking 80 (kv m) es i).run Try.prog w = .ok none w ∧ ∀ e ∈ es, e.key ≠ kv m) ∨
    ∃ j e, (Instr.findAsking 80 (kv m) es i).run Try.prog w = .ok (some (i + j, e.val)) w ∧ es[j]? = some e ∧ e.key = kv m
  | [], i, _ => Or.inl ⟨by simp [Instr.findAsking], by simp⟩
  | e :: es, i, hall => by
    obtain ⟨m', hk, hn'⟩ := hall e (by simp)
    obtain ⟨cs, t, h1⟩ := hN _ hm
    obtain ⟨cs', t', h2⟩ := hN _ hn'
    have hr := equal_kv w (m := m) (m' := m') h1 h2
    rw [← hk] at hr
    by_cases hmm : m = m'
    · subst hmm
      rw [decide_eq_true rfl] at hr
      exact Or.inr ⟨0, e, by simp [Instr.findAsking, hr], rfl, hk⟩
    · rw [decide_eq_false hmm] at hr
      rcases find_kv w hN hm es (i + 1) (fun y hy => hall y (by simp [hy])) with ⟨h1, h2⟩ | ⟨j, e', h1, h2, h3⟩
      · refine Or.inl ⟨by simp [Instr.findAsking, hr, h1], fun y hy => ?_⟩
        rcases List.mem_cons.1 hy with rfl | hy
        · rw [hk]; exact fun h => hmm (kv_inj h).symm
        · exact h2 y hy
      · exact Or.inr ⟨j + 1, e', by simp [Instr.findAsking, hr, h1, Nat.add_assoc, Nat.add_comm 1 j], by simpa using h2, h3⟩
theorem findKey_kv (w : World) {N : Nat → Prop} (hN : ∀ b, N b → ∃ cs t, w.heap[b]? = some (Obj.cells cs t (0, 0))) {m : Mean.Mark} (hm : N m.1) (es : List MapEntry) (h : ∀ e ∈ es, ∃ m, e.key = kv m ∧ N m.1) :
    ((Instr.findKey 80 (kv m) es).run Try.prog w = .ok none w ∧ ∀ e ∈ es, e.key ≠ kv m) ∨
    ∃ j e, (Instr.findKey 80 (kv m) es).run Try.prog w = .ok (some (j, e.val)) w ∧ es[j]? = some e ∧ e.key = kv m := by
  have e : (Instr.findKey 80 (kv m) es).run Try.prog w = (Instr.findAsking 80 (kv m) es).run Try.prog w := by
    unfold Instr.findKey
    cases es with
    | nil => simp [run_underlying Try.underlying80, Instr.findNow, Instr.findAsking]
    | cons x es => simp [run_underlying Try.underlying80, Instr.findNow, Instr.sameNow]
  rw [e]
  rcases find_kv w hN hm es 0 h with h1 | ⟨j, e, h1, h2, h3⟩
  · exact Or.inl h1
  · exact Or.inr ⟨j, e, by simpa using h1, h2, h3⟩
section
variable {w : World} {N : Nat → Prop} {es : Array MapEntry} {clock b : Nat} {met : Mean.Mark → Nat} {m : Mean.Mark}
theorem MapOk.keys (h : MapOk N es clock met) : ∀ e ∈ es.toList, ∃ m, e.key = kv m ∧ N m.1 := fun e he => by
  obtain ⟨m, h1, h2, _⟩ := h.reads e he; exact ⟨m, h1, h2⟩
theorem MapOk.lookup (h : MapOk N es clock met) (hN : ∀ b, N b → ∃ cs t, w.heap[b]? = some (Obj.cells cs t (0, 0))) (hm : N m.1) (hb : w.heap[b]? = some (.map es clock)) :
    (Instr.lookup 54 (.map (some b)) (kv m) false).run Try.prog w = .ok (.int .i64 (met m : Int)) w := by
  have hz : (zeroValue 3).run Try.prog w = .ok (.int .i64 0) w := by simp [go_sem]
  rcases findKey_kv w hN hm es.toList h.keys with ⟨h1, h2⟩ | ⟨j, e0, h1, h2, h3⟩
  · have : met m = 0 := by
      by_cases e : met m = 0
      · exact e
      · obtain ⟨x, hx, hk⟩ := h.has m (by omega)
        exact absurd hk (h2 x hx)
    rw [this]
    simp [Instr.lookup, run_underlying Try.underlying54, MapKept.run_getObj_map hb, check_kv, h1, hz, Result.andThen]
  · obtain ⟨m', e1, _, e2⟩ := h.reads e0 (List.mem_of_getElem? h2)
    rw [h3] at e1
    have := kv_inj e1
    subst this
    simp [Instr.lookup, run_underlying Try.underlying54, MapKept.run_getObj_map hb, check_kv, h1, e2, Result.andThen]
/-- w.met[m]++: the entry, then the store. -/
theorem MapOk.entry (h : MapOk N es clock met) (hN : ∀ b, N b → ∃ cs t, w.heap[b]? = some (Obj.cells cs t (0, 0))) (hm : N m.1) (hb : w.heap[b]? = some (.map es clock)) :
    ∃ (v0 : Value) (st : Nat) (es1 : Array MapEntry) (clock1 : Nat), (Instr.mapEntry 54 (.map (some b)) (kv m)).run Try.prog w = .ok (.tuple #[v0, goInt st]) (ChangeMaps.setBlock w b (.map es1 clock1)) ∧ MapOk N es1 clock1 met ∧
      ∀ (w2 : World), w2.heap[b]? = some (.map es1 clock1) → ∃ es' clock', (Instr.entryStore 54 (.map (some b)) (goInt st) (.int .i64 ((met m : Int) + 1))).run Try.prog w2 = .ok () (ChangeMaps.setBlock w2 b (.map es' clock')) ∧
        MapOk N es' clock' (fun x => if x = m then met x + 1 else met x) := by
  have hz : (zeroValue 3).run Try.prog w = .ok (.int .i64 0) w := by simp [go_sem]
  obtain ⟨s1, s2, s3⟩ := h.stamped
  have hs3 := ((MapKept.stamped_iff es clock).1 h.stamped).2.2
  rcases findKey_kv w hN hm es.toList h.keys with ⟨h1, h2⟩ | ⟨j, e0, h1, h2, h3⟩
  · have hm0 : met m = 0 := by
      by_cases e : met m = 0
      · exact e
      · obtain ⟨x, hx, hk⟩ := h.has m (by omega)
        exact absurd hk (h2 x hx)
    refine ⟨.int .i64 0, clock, es.push ⟨kv m, .int .i64 0, clock⟩, clock + 1, ?_, ⟨MapKept.stamped_push h.stamped h2, ?_, ?_⟩, fun w2 hw2 => ⟨es.push ⟨kv m, .int .i64 ((met m : Int) + 1), clock⟩, clock + 1, ?_, ⟨MapKept.stamped_push h.stamped h2, ?_, ?_⟩⟩⟩
    · simp [Instr.mapEntry, run_underlying Try.underlying54, MapKept.run_getObj_map hb, check_kv, h1, hz, MapKept.run_setObj_map _ hb, Result.andThen, ChangeMaps.setBlock]
    · intro e he
      simp only [Array.toList_push, List.mem_append, List.mem_singleton] at he
      rcases he with he | rfl
      · exact h.reads e he
      · exact ⟨m, rfl, hm, by rw [hm0]; rfl⟩
    · intro m' hm'
      obtain ⟨e, he, hk⟩ := h.has m' hm'
      exact ⟨e, by simp [he], hk⟩
    · have hidx : (es.push ⟨kv m, .int .i64 0, clock⟩).findIdx? (fun e => ((e.born : Nat) : Int) == ((clock : Nat) : Int)) = some es.size := by
        rw [WideElems.findIdx_arr]
        exact WideElems.findIdx_born (l := (es.push ⟨kv m, .int .i64 0, clock⟩).toList) (j := es.size) (e0 := ⟨kv m, .int .i64 0, clock⟩) (by
          simp only [Array.toList_push, List.map_append, List.map_cons, List.map_nil]
          refine List.nodup_append.2 ⟨s2, by simp, fun a ha c hc e1 => ?_⟩
          simp only [List.mem_singleton] at hc
          obtain ⟨x, hx, rfl⟩ := List.mem_map.1 ha
          have := s1 x hx
          omega) (by simp)
      have hmod : (es.push ⟨kv m, .int .i64 0, clock⟩).modify es.size (fun e => { e with val := .int .i64 ((met m : Int) + 1) }) = es.push ⟨kv m, .int .i64 ((met m : Int) + 1), clock⟩ := by
        apply Array.ext'
        rw [Array.toList_modify, Array.toList_push, Array.toList_push, ← Array.length_toList, WideElems.modify_last]
      simp [Instr.entryStore, MapKept.run_getObj_map hw2, asInt, asIntOf, goInt, hidx, hmod, MapKept.run_setObj_map _ hw2, Result.andThen, ChangeMaps.setBlock]
    · intro e he
      simp only [Array.toList_push, List.mem_append, List.mem_singleton] at he
      rcases he with he | rfl
      · obtain ⟨m', e1, e2, e3⟩ := h.reads e he
        refine ⟨m', e1, e2, ?_⟩
        have : m' ≠ m := fun hx => h2 e he (by rw [e1, hx])
        rw [if_neg this]; exact e3
      · exact ⟨m, rfl, hm, by rw [if_pos rfl]; simp⟩
    · intro m' hm'
      by_cases e : m' = m
      · exact ⟨⟨kv m, .int .i64 ((met m : Int) + 1), clock⟩, by simp, by rw [e]⟩
      · rw [if_neg e] at hm'
        obtain ⟨x, hx, hk⟩ := h.has m' hm'
        exact ⟨x, by simp [hx], hk⟩
  · have hj : es[j]? = some e0 := by simpa using h2
    obtain ⟨m', e1, e2, e3⟩ := h.reads e0 (List.mem_of_getElem? h2)
    have hmm := kv_inj (h3.symm.trans e1)
    subst hmm
    have hsame : es.modify j (fun e => { e with key := kv m }) = es := by
      apply Array.ext'
      rw [Array.toList_modify, ChangeMaps.modify_eq_set _ _ _ _ h2]
      have : ({ e0 with key := kv m } : MapEntry) = e0 := by rw [← h3]
      rw [this]
      exact WideElems.set_self _ _ _ h2
    have hkeyf : ∀ e', es[j]? = some e' → ({ e' with val := .int .i64 ((met m : Int) + 1) } : MapEntry).key = e'.key := fun e' he' => rfl
    have hlist : (es.modify j (fun e' => { e' with val := .int .i64 ((met m : Int) + 1) })).toList = es.toList.set j { e0 with val := .int .i64 ((met m : Int) + 1) } := by rw [Array.toList_modify, ChangeMaps.modify_eq_set _ _ _ _ h2]
    have hjl : j < es.toList.length := (List.getElem?_eq_some_iff.1 h2).1
    refine ⟨e0.val, e0.born, es, clock, ?_, h, fun w2 hw2 => ⟨es.modify j (fun e' => { e' with val := .int .i64 ((met m : Int) + 1) }), clock, ?_, ⟨MapKept.stamped_modify h.stamped _ _ (fun _ _ => rfl) (fun e' _ he' => rfl), ?_, ?_⟩⟩⟩
    · simp [Instr.mapEntry, run_underlying Try.underlying54, MapKept.run_getObj_map hb, check_kv, h1, hj, h3, stays_kv, hsame, MapKept.run_setObj_map _ hb, Result.andThen, ChangeMaps.setBlock]
    · have hidx : es.findIdx? (fun e => ((e.born : Nat) : Int) == ((e0.born : Nat) : Int)) = some j := by
        rw [WideElems.findIdx_arr]
        exact WideElems.findIdx_born s2 h2
      simp [Instr.entryStore, MapKept.run_getObj_map hw2, asInt, asIntOf, goInt, hidx, MapKept.run_setObj_map _ hw2, Result.andThen, ChangeMaps.setBlock]
    · intro x hx
      rw [hlist] at hx
      obtain ⟨i, hi, ex⟩ := List.getElem_of_mem hx
      rw [List.getElem_set] at ex
      split at ex
      · subst ex
        exact ⟨m, h3, hm, by rw [if_pos rfl]; simp⟩
      · rename_i hne
        have hi' : i < es.toList.length := by simpa using hi
        obtain ⟨m', f1, f2, f3⟩ := h.reads x (ex ▸ List.getElem_mem hi')
        refine ⟨m', f1, f2, ?_⟩
        have : m' ≠ m := fun hx => by
          have hk : x.key = e0.key := by rw [f1, h3, hx]
          have he0 : es.toList[j] = e0 := (List.getElem?_eq_some_iff.1 h2).2
          have hn : (es.toList.map (·.key)).Nodup := s3
          rw [List.Nodup, List.pairwise_iff_getElem] at hn
          have hji : (es.toList.map (·.key))[i]'(by simpa using hi') = (es.toList.map (·.key))[j]'(by simpa using hjl) := by simp only [List.getElem_map, ex, he0]; exact hk
          rcases Nat.lt_or_gt_of_ne hne with hlt | hlt
          · exact hn j i (by simpa using hjl) (by simpa using hi') hlt hji.symm
          · exact hn i j (by simpa using hi') (by simpa using hjl) hlt hji
        rw [if_neg this]; exact f3
    · intro m' hm'
      by_cases e : m' = m
      · refine ⟨{ e0 with val := .int .i64 ((met m : Int) + 1) }, ?_, by rw [e]; exact h3⟩
        rw [hlist]
        exact List.mem_iff_getElem.2 ⟨j, by simpa using hjl, by simp⟩
      · rw [if_neg e] at hm'
        obtain ⟨x, hx, hk⟩ := h.has m' hm'
        refine ⟨x, ?_, hk⟩
        rw [hlist]
        obtain ⟨i, hi, ex⟩ := List.getElem_of_mem hx
        have hne : j ≠ i := fun hx => by
          subst hx
          have he0 : es.toList[j] = e0 := (List.getElem?_eq_some_iff.1 h2).2
          rw [← ex, he0] at hk
          exact e (kv_inj (hk.symm.trans h3))
        exact List.mem_iff_getElem.2 ⟨i, by simpa using hi, by rw [List.getElem_set_ne hne]; exact ex⟩
end
end Go.Proofs.Ytjeljlgjkjeloaa
/- meaning's walker in memory: what stands, what changes. -/
namespace Go.Proofs.Ytjeljlgjkjeloaa
open Go.RowKit

/-- What a walker has: its block, the map, the box of what came out, the box of the place, the text; the notes' length; the nodes. -/
structure Wk where
  base : Nat
  wb : Nat
  mb : Nat
  ob : Nat
  ab : Nat
  At : Option Addr
  nt : Nat
  ct : Nat
  t : List Int
  at_ : Nat
  NL : Nat
  U : List Mean.Un
/-- The block that what came out stands in. -/
def outB (ob : Nat) (w : World) : Option Nat := (w.cell? ⟨ob, 0, none⟩).bind Value.ownBlock
/-- What may change. -/
def Wk.mut (G : Wk) (w : World) : List Nat := G.mb :: G.ob :: (outB G.ob w).toList
/-- A block that stays. -/
def Wk.still (G : Wk) (w : World) (b : Nat) : Prop := b < w.heap.size ∧ b ∉ G.mut w
/-- From world to world. -/
structure Wk.fr (G : Wk) (w w' : World) : Prop where
  kept : Kept w w' (G.mut w)
  out : ∀ b, outB G.ob w' = some b → outB G.ob w = some b ∨ w.heap.size ≤ b
  mb : G.mb < w.heap.size
  ob : G.ob < w.heap.size
section
variable {G : Wk} {w w' w'' : World} {b : Nat}
theorem mem_mut : b ∈ G.mut w ↔ b = G.mb ∨ b = G.ob ∨ outB G.ob w = some b := by
  unfold Wk.mut
  simp only [List.mem_cons, Option.mem_toList, Option.mem_def]
theorem Wk.still.fr (h : G.still w b) (f : G.fr w w') : G.still w' b := by
  refine ⟨Nat.lt_of_lt_of_le h.1 f.kept.size, fun hm => h.2 (mem_mut.2 ?_)⟩
  rcases mem_mut.1 hm with e | e | e
  · exact .inl e
  · exact .inr (.inl e)
  · rcases f.out b e with e | e
    · exact .inr (.inr e)
    · exact absurd h.1 (by omega)
theorem Wk.still.heap (h : G.still w b) (f : G.fr w w') : w'.heap[b]? = w.heap[b]? := f.kept.block b h.1 h.2
theorem Wk.still.cell (h : G.still w b) (f : G.fr w w') (o : Nat) : w'.cell? ⟨b, o, none⟩ = w.cell? ⟨b, o, none⟩ := World.cell?_of_block (a := ⟨b, o, none⟩) (h.heap f)
theorem Wk.fr.trans (f : G.fr w w') (g : G.fr w' w'') : G.fr w w'' := by
  refine ⟨(f.kept.trans g.kept).more fun k hk => ?_, fun b hb => ?_, f.mb, f.ob⟩
  · rcases List.mem_append.1 hk with hk | hk
    · exact .inl hk
    · rcases mem_mut.1 hk with e | e | e
      · exact .inl (mem_mut.2 (.inl e))
      · exact .inl (mem_mut.2 (.inr (.inl e)))
      · rcases f.out k e with e | e
        · exact .inl (mem_mut.2 (.inr (.inr e)))
        · exact .inr e
  · rcases g.out b hb with e | e
    · exact f.out b e
    · exact .inr (Nat.le_trans f.kept.size e)
theorem Wk.fr.of_below (h : Below w.heap.size w w') (hm : G.mb < w.heap.size) (ho : G.ob < w.heap.size) : G.fr w w' :=
  ⟨Kept.of_below h, fun b hb => .inl (by unfold outB at hb ⊢; rwa [h.cell (p := ⟨G.ob, 0, none⟩) ho] at hb), hm, ho⟩
theorem Wk.fr.refl (hm : G.mb < w.heap.size) (ho : G.ob < w.heap.size) : G.fr w w := Wk.fr.of_below (Below.refl _ _) hm ho
theorem RdA.fr {size n c : Nat} {A : Option Addr} {xs : List Value} (h : RdA w (G.still w) size A n c xs) (f : G.fr w w') : RdA w' (G.still w') size A n c xs :=
  (h.go fun _ hb => hb.heap f).mono fun _ hb => hb.fr f
end

/-- Pointers to nodes. -/
def ptrs (l : List Mean.Un) : List Value := l.map fun s => .pointer (some ⟨s.ad, 0, none⟩)
/-- A node in memory. -/
structure Wk.nd (G : Wk) (w : World) (n : Mean.Un) (ra : Option Addr) (rc : Nat) (sa : Option Addr) (sc : Nat) : Prop where
  still : G.still w n.ad
  blk : Blk w n.ad 83 [.int .i64 n.kind, .slice ra n.rng.length rc, .int .i64 n.ast, .int .i64 n.ix, .bool n.lz, .slice sa n.subs.length sc]
  rng : RdA w (G.still w) 2 ra n.rng.length rc (flat n.rng)
  subs : RdA w (G.still w) 1 sa n.subs.length sc (ptrs n.subs)
/-- What is right of the nodes. -/
structure Wk.wf (G : Wk) : Prop where
  closed : Mean.Closed G.U
  cls : ∀ n ∈ G.U, n.kind = 2 → rightB n.rng = true
  ast : ∀ n ∈ G.U, n.kind = 3 → ∃ j : Nat, j < 6 ∧ n.ast = ((2 ^ j : Nat) : Int)
  grp : ∀ n ∈ G.U, n.kind = 7 → 0 ≤ n.ix ∧ 2 * n.ix + 1 < (G.NL : Int)
  one : ∀ n ∈ G.U, n.kind = 7 ∨ n.kind = -1 ∨ n.kind = -2 ∨ n.kind = -3 → n.subs ≠ []
  few : ∀ n ∈ G.U, n.subs.length ≤ 1099511627776
  kinds : ∀ n ∈ G.U, n.kind = 1 ∨ n.kind = 2 ∨ n.kind = 3 ∨ n.kind = 4 ∨ n.kind = 5 ∨ n.kind = 7 ∨ n.kind = -1 ∨ n.kind = -2 ∨ n.kind = -3
  nl : 2 ≤ G.NL ∧ G.NL ≤ 1099511627776
  len : G.t.length = G.nt
  short : G.nt ≤ 1099511627776
/-- What never changes. -/
structure Wk.cst (G : Wk) (w : World) : Prop where
  mb : G.mb < w.heap.size
  ob : G.ob < w.heap.size
  wb : G.still w G.wb ∧ Blk w G.wb 56 [.slice G.At G.nt G.ct, .map (some G.mb)]
  ab : G.still w G.ab ∧ w.cell? ⟨G.ab, 0, none⟩ = some (.int .i64 (G.at_ : Int))
  text : RdA w (G.still w) 1 G.At G.nt G.ct (G.t.map (Value.int .i64))
  nodes : ∀ n ∈ G.U, ∃ ra rc sa sc, G.nd w n ra rc sa sc
section
variable {G : Wk} {w w' : World} {n : Mean.Un} {ra sa : Option Addr} {rc sc : Nat}
theorem Blk.still {b : Nat} {t : TypeId} {cs : List Value} (h : Blk w b t cs) (hs : G.still w b) (f : G.fr w w') : Blk w' b t cs := (hs.heap f).trans h
theorem Wk.nd.fr (h : G.nd w n ra rc sa sc) (f : G.fr w w') : G.nd w' n ra rc sa sc :=
  ⟨h.still.fr f, h.blk.still h.still f, h.rng.fr f, h.subs.fr f⟩
theorem Wk.cst.fr (h : G.cst w) (f : G.fr w w') : G.cst w' :=
  ⟨Nat.lt_of_lt_of_le h.mb f.kept.size, Nat.lt_of_lt_of_le h.ob f.kept.size, ⟨h.wb.1.fr f, h.wb.2.still h.wb.1 f⟩, ⟨h.ab.1.fr f, (h.ab.1.cell f 0).trans h.ab.2⟩, h.text.fr f, fun n hn => by
    obtain ⟨ra, rc, sa, sc, hd⟩ := h.nodes n hn
    exact ⟨ra, rc, sa, sc, hd.fr f⟩⟩
theorem Wk.cst.refl (h : G.cst w) : G.fr w w := Wk.fr.refl h.mb h.ob
theorem Wk.cst.below (h : G.cst w) (hb : Below w.heap.size w w') : G.fr w w' := Wk.fr.of_below hb h.mb h.ob
end
/-- A box of its own, which stays. -/
def Wk.box (G : Wk) (w : World) (b : Nat) (v : Value) : Prop := G.still w b ∧ w.cell? ⟨b, 0, none⟩ = some v
/-- A continuation in memory. -/
def Wk.kv (G : Wk) (w : World) : Mean.Kt → Value → Prop
  | .top, v => v = .func (Fn.func 29) #[] #[.pointer (some ⟨G.ob, 0, none⟩), .pointer (some ⟨G.ab, 0, none⟩)]
  | .row l K, v => ∃ bw bl bb A c s v', v = .func (Fn.func 66) #[] #[.pointer (some ⟨bw, 0, none⟩), .pointer (some ⟨bl, 0, none⟩), .pointer (some ⟨bb, 0, none⟩)] ∧
      G.box w bw (.pointer (some ⟨G.wb, 0, none⟩)) ∧ G.box w bl (.slice A (l.length + 1) c) ∧ RdA w (G.still w) 1 A (l.length + 1) c (ptrs (s :: l)) ∧ (∀ x ∈ l, x ∈ G.U) ∧ G.box w bb v' ∧ G.kv w K v'
  | .grp i K, v => ∃ bb bn n v', v = .func (Fn.func 48) #[] #[.pointer (some ⟨bb, 0, none⟩), .pointer (some ⟨bn, 0, none⟩)] ∧
      G.box w bb v' ∧ G.kv w K v' ∧ G.box w bn (.pointer (some ⟨n.ad, 0, none⟩)) ∧ n ∈ G.U ∧ n.ix = i ∧ 0 ≤ i ∧ 2 * i + 1 < (G.NL : Int)
  | .dec n K, v => ∃ f bw bn bb v', (f = 51 ∨ f = 67) ∧ v = .func (Fn.func f) #[] #[.pointer (some ⟨bw, 0, none⟩), .pointer (some ⟨bn, 0, none⟩), .pointer (some ⟨bb, 0, none⟩)] ∧
      G.box w bw (.pointer (some ⟨G.wb, 0, none⟩)) ∧ G.box w bn (.pointer (some ⟨n.ad, 0, none⟩)) ∧ n ∈ G.U ∧ G.box w bb v' ∧ G.kv w K v'
section
variable {G : Wk} {w w' : World}
theorem Wk.box.fr {b : Nat} {v : Value} (h : G.box w b v) (f : G.fr w w') : G.box w' b v := ⟨h.1.fr f, (h.1.cell f 0).trans h.2⟩
theorem Wk.kv_fr (f : G.fr w w') : ∀ {K : Mean.Kt} {v : Value}, G.kv w K v → G.kv w' K v
  | .top, v, h => h
  | .row l K, v, ⟨bw, bl, bb, A, c, s, v', h0, h1, h2, h3, h4, h5, h6⟩ => ⟨bw, bl, bb, A, c, s, v', h0, h1.fr f, h2.fr f, h3.fr f, h4, h5.fr f, Wk.kv_fr f h6⟩
  | .grp i K, v, ⟨bb, bn, n, v', h0, h1, h2, h3, h4⟩ => ⟨bb, bn, n, v', h0, h1.fr f, Wk.kv_fr f h2, h3.fr f, h4⟩
  | .dec n K, v, ⟨g, bw, bn, bb, v', h, h0, h1, h2, h3, h4, h5⟩ => ⟨g, bw, bn, bb, v', h, h0, h1.fr f, h2.fr f, h3, h4.fr f, Wk.kv_fr f h5⟩
end
/-- The words of what came out. -/
def outW (l : List (Nat × Option Addr × Nat × List Int)) : List Value := l.flatMap fun p => [.int .i64 (p.1 : Int), .slice p.2.1 p.2.2.2.length p.2.2.1]
/-- The state in memory. -/
structure Wk.st (G : Wk) (w : World) (s : Mean.St) : Prop where
  map : ∃ es clock, w.heap[G.mb]? = some (.map es clock) ∧ MapOk (fun b => ∃ n ∈ G.U, n.ad = b) es clock s.met
  out : ∃ v ps, Blk w G.ob 35 [v] ∧ w.ownsRow G.base 45 2 v s.out.length (outW ps) ∧ s.out = ps.map (fun p => (p.1, p.2.2.2)) ∧ (∀ p ∈ ps, RdA w (G.still w) 1 p.2.1 p.2.2.2.length p.2.2.1 (p.2.2.2.map (Value.int .i64)) ∧ p.2.2.2.length = G.NL)
  met : ∀ m, s.met m ≤ s.calls
  ends : (s.out.map (·.1)).Nodup ∧ ∀ p ∈ s.out, p.1 ≤ G.nt
theorem Wk.st.below {G : Wk} {w w' : World} {s : Mean.St} (h : G.st w s) (hb : Below w.heap.size w w') (hm : G.mb < w.heap.size) (ho : G.ob < w.heap.size) : G.st w' s := by
  obtain ⟨⟨es, cl, h1, h2⟩, ⟨v, ps, h3, h4, h5, h6⟩, h7, h8⟩ := h
  exact ⟨⟨es, cl, (hb.block _ hm).trans h1, h2⟩, ⟨v, ps, h3.below hb ho, own_below h4 hb, h5, fun p hp => ⟨(h6 p hp).1.fr (Wk.fr.of_below hb hm ho), (h6 p hp).2⟩⟩, h7, h8⟩
/-- What a task does. -/
def Wk.does (G : Wk) (s : Mean.St) (k : Mean.Task) (s' : Mean.St) : Prop :=
  match k with
  | .beg n pl nt K => n ∈ G.U → pl ≤ G.nt → nt.length = G.NL → ∀ (w : World) (v : Value) (N : Option Addr) (c : Nat), G.cst w → G.st w s → RdA w (G.still w) 1 N G.NL c (nt.map (Value.int .i64)) → G.kv w K v →
      Calls Try.prog 27 #[.pointer (some ⟨G.wb, 0, none⟩), .pointer (some ⟨n.ad, 0, none⟩), .int .i64 (pl : Int), .slice N G.NL c, v] w fun e w' => e = .returned (.tuple #[]) ∧ G.fr w w' ∧ G.st w' s'
  | .dcd n pl nt K => n ∈ G.U → pl ≤ G.nt → nt.length = G.NL → ∀ (w : World) (v : Value) (N : Option Addr) (c : Nat), G.cst w → G.st w s → RdA w (G.still w) 1 N G.NL c (nt.map (Value.int .i64)) → G.kv w K v →
      Calls Try.prog 50 #[.pointer (some ⟨G.wb, 0, none⟩), .pointer (some ⟨n.ad, 0, none⟩), .int .i64 (pl : Int), .slice N G.NL c, v] w fun e w' => e = .returned (.tuple #[]) ∧ G.fr w w' ∧ G.st w' s'
  | .go K pl nt => pl ≤ G.nt → nt.length = G.NL → ∀ (w : World) (v : Value) (N : Option Addr) (c : Nat), G.cst w → G.st w s → RdA w (G.still w) 1 N G.NL c (nt.map (Value.int .i64)) → G.kv w K v →
      ∃ f caps, v = .func (Fn.func f) #[] caps ∧ (∀ args u, (callFunc f args).run Try.prog u = .ok (.enter f args) u) ∧ Calls Try.prog f (#[.int .i64 (pl : Int), .slice N G.NL c] ++ caps) w fun e w' => e = .returned (.tuple #[]) ∧ G.fr w w' ∧ G.st w' s'
/-- What tasks do, one behind the other. -/
def Wk.chain (G : Wk) : Mean.St → List Mean.Task → Mean.St → Prop
  | s, [], s' => s' = s
  | s, k :: l, s' => ∃ s1, G.does s k s1 ∧ G.chain s1 l s'
end Go.Proofs.Ytjeljlgjkjeloaa
