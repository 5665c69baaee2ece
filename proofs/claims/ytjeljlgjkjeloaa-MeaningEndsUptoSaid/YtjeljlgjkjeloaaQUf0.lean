/- Unfolded trees in memory, and rows of them that grow. -/
import Derived.Test.YtjeljlgjkjeloaaQMean
import Derived.Test.YtjeljlgjkjeloaaQTreeW
namespace Go.Proofs.Ytjeljlgjkjeloaa
open Go.RowKit

theorem enters0 {P : Program} {f : FuncId} {fn : Func} (h : P.funcs[f]? = some fn) (h1 : (fn.name == "runtime.NumGoroutine") = false) (h2 : fn.body.isNone = false) : ∀ args u, (callFunc f args).run P u = .ok (.enter f args) u := by
  intro args u
  unfold callFunc
  have h1' : ¬ (fn.name = "runtime.NumGoroutine") := by simpa using h1
  have h2' : ¬ (fn.body = none) := by intro e; rw [e] at h2; cases h2
  simp [go_sem, h, h1', h2']
/-- A call of a Go function, as a step of a region that draws its order. -/
theorem step_call {P : Program} {ops : Array Oper} {o : Oper} {a : Act} {w : World} {K : Act → World → Prop} {Q : Exit → Act → World → Prop} {E : Prop} (hgd : o.guard = none) (f : FuncId) (x : Operand) (t : TypeId)
    (ho : o.op = .call { callee := .value (.func f), args := #[x], argTypes := #[t] }) (v : Value) (hx : a.eval x = v) (he : ∀ args u, (callFunc f args).run P u = .ok (.enter f args) u)
    (h : Calls P f #[v] w fun e w' => ∃ r, e = .returned r ∧ K (a.put o.dst r) w') : if Region.wanted o (yielded ops a.tmps) = true then Oper.wp P o a w K Q else E := by
  have hw : Region.wanted o (yielded ops a.tmps) = true := by simp [Region.wanted, hgd]
  rw [if_pos hw]
  unfold Oper.wp
  have hrun : (execOp a.eval o).run P w = .ok (.enter f #[v]) w := by
    obtain ⟨dst, op, type, pos, after, guard⟩ := o
    simp only [] at ho
    subst ho
    show (callFunc f (#[] ++ (#[x] : Array Operand).map a.eval ++ #[])).run P w = _
    rw [he, ← hx]
    simp
  rw [hrun, Oper.upon_enter]
  refine h.mono ?_
  rintro e w' ⟨r, rfl, hk⟩
  exact hk
/-- The same of a function value. -/
theorem step_callv {P : Program} {ops : Array Oper} {o : Oper} {a : Act} {w : World} {K : Act → World → Prop} {Q : Exit → Act → World → Prop} {E : Prop} (hgd : o.guard = none) (f : FuncId) (y : Operand) (xs : Array Operand) (ts : Array TypeId) (caps : Array Value)
    (ho : o.op = .call { callee := .value y, args := xs, argTypes := ts }) (hy : a.eval y = .func (Fn.func f) #[] caps) (vs : Array Value) (hx : xs.map a.eval = vs) (he : ∀ args u, (callFunc f args).run P u = .ok (.enter f args) u)
    (h : Calls P f (vs ++ caps) w fun e w' => ∃ r, e = .returned r ∧ K (a.put o.dst r) w') : if Region.wanted o (yielded ops a.tmps) = true then Oper.wp P o a w K Q else E := by
  have hw : Region.wanted o (yielded ops a.tmps) = true := by simp [Region.wanted, hgd]
  rw [if_pos hw]
  unfold Oper.wp
  have hrun : (execOp a.eval o).run P w = .ok (.enter f (vs ++ caps)) w := by
    obtain ⟨dst, op, type, pos, after, guard⟩ := o
    simp only [] at ho
    subst ho
    simp only [execOp, resolve, hy, Sem.run_bind, hx]
    show (callFunc f (#[] ++ vs ++ caps)).run P w = _
    rw [he]
    simp
  rw [hrun, Oper.upon_enter]
  refine h.mono ?_
  rintro e w' ⟨r, rfl, hk⟩
  exact hk
/-- The form of an unfolded tree, its blocks apart. -/
inductive Us where
  | mk (kind : Int) (rng : List (Int × Int)) (ast ix : Int) (lz : Bool) (subs : List Us)
mutual
def shU : Mean.Un → Us
  | .mk _ k r b i z l => .mk k r b i z (shUs l)
def shUs : List Mean.Un → List Us
  | [] => []
  | u :: l => shU u :: shUs l
end
theorem shUs_map : ∀ l : List Mean.Un, shUs l = l.map shU
  | [] => rfl
  | u :: l => by rw [shUs, shUs_map l]; rfl
/-- x, so often; at the end maybe a loop of it. -/
def emptyU : Us := .mk 1 [] 0 0 false []
def loopU (k : Int) (z : Bool) (x : Us) : Us := .mk k [] 0 0 z [x]
def catU (l : List Us) : Us := .mk 4 [] 0 0 false l
/-- x? and x(x?)? .. -/
def optU (z : Bool) (x : Us) : Nat → Us
  | 0 => loopU (-1) z x
  | n + 1 => loopU (-1) z (catU [x, optU z x n])
def repU (x : Us) (n m : Int) (z : Bool) : Us :=
  if m = -1 then (if n = 0 then loopU (-2) z x else catU (List.replicate (n - 1).toNat x ++ [loopU (-3) z x]))
  else if n.toNat = 0 ∧ ¬ n < m then emptyU else catU (List.replicate n.toNat x ++ (if n < m then [optU z x (m - n - 1).toNat] else []))
mutual
def unfS : Tr.Tr → Us
  | .mk k r a l n m z i _ => if k ≠ 6 then .mk k r a i false (unfSs l) else repU ((unfSs l).headD emptyU) n m z
def unfSs : List Tr.Tr → List Us
  | [] => []
  | t :: l => unfS t :: unfSs l
end
theorem unfSs_map : ∀ l : List Tr.Tr, unfSs l = l.map unfS
  | [] => rfl
  | t :: l => by rw [unfSs, unfSs_map l]; rfl

/-- Pointers to nodes. -/
def uptrs (l : List Mean.Un) : List Value := l.map fun s => .pointer (some ⟨s.ad, 0, none⟩)
theorem uptrs_length (l : List Mean.Un) : (uptrs l).length = l.length := by simp [uptrs]
/-- A node in memory: its block, its ranges in S, its row in T. -/
structure UN (w : World) (S T : Nat → Prop) (n : Mean.Un) (ra : Option Addr) (rc : Nat) (sa : Option Addr) (sc : Nat) : Prop where
  ad : T n.ad
  blk : Blk w n.ad 83 [.int .i64 n.kind, .slice ra n.rng.length rc, .int .i64 n.ast, .int .i64 n.ix, .bool n.lz, .slice sa n.subs.length sc]
  rng : RdA w S 2 ra n.rng.length rc (flat n.rng)
  subs : RdA w T 1 sa n.subs.length sc (uptrs n.subs)
/-- An unfolded tree in memory, each node in a block of its own. -/
structure UT (w : World) (S T : Nat → Prop) (u : Mean.Un) : Prop where
  nodes : ∀ n ∈ u.all, ∃ ra rc sa sc, UN w S T n ra rc sa sc
  nodup : (u.all.map Mean.Un.ad).Nodup
section
variable {w w' : World} {S S' T T' : Nat → Prop} {n u : Mean.Un} {ra sa : Option Addr} {rc sc : Nat}
theorem UN.go (h : UN w S T n ra rc sa sc) (hS : ∀ b, S b → w'.heap[b]? = w.heap[b]?) (hT : ∀ b, T b → w'.heap[b]? = w.heap[b]?) : UN w' S T n ra rc sa sc :=
  ⟨h.ad, (hT _ h.ad).trans h.blk, h.rng.go hS, h.subs.go hT⟩
theorem UN.mono (h : UN w S T n ra rc sa sc) (hS : ∀ b, S b → S' b) (hT : ∀ b, T b → T' b) : UN w S' T' n ra rc sa sc :=
  ⟨hT _ h.ad, h.blk, h.rng.mono hS, h.subs.mono hT⟩
theorem UT.go (h : UT w S T u) (hS : ∀ b, S b → w'.heap[b]? = w.heap[b]?) (hT : ∀ b, T b → w'.heap[b]? = w.heap[b]?) : UT w' S T u :=
  ⟨fun n hn => by obtain ⟨ra, rc, sa, sc, hd⟩ := h.nodes n hn; exact ⟨ra, rc, sa, sc, hd.go hS hT⟩, h.nodup⟩
theorem UT.mono (h : UT w S T u) (hS : ∀ b, S b → S' b) (hT : ∀ b, T b → T' b) : UT w S' T' u :=
  ⟨fun n hn => by obtain ⟨ra, rc, sa, sc, hd⟩ := h.nodes n hn; exact ⟨ra, rc, sa, sc, hd.mono hS hT⟩, h.nodup⟩
theorem UT.mem (h : UT w S T u) {b : Nat} (hb : b ∈ u.all.map Mean.Un.ad) : T b := by
  obtain ⟨n, hn, rfl⟩ := List.mem_map.1 hb
  obtain ⟨ra, rc, sa, sc, hd⟩ := h.nodes n hn
  exact hd.ad
end
section
variable {w w' : World} {B B' : Nat} {L L' M : List Nat} {u : Mean.Un} {S : Nat → Prop}
/-- Writes to M: what does not read there stays. -/
theorem UT.kept (h : UT w S (Fr B L w) u) (hS : ∀ b, S b → w'.heap[b]? = w.heap[b]?) (k : Kept w w' M) (hM : ∀ b ∈ M, b ∈ L ∨ w.heap.size ≤ b ∨ b < B) (hL : ∀ b ∈ L', b ∈ L ∨ w.heap.size ≤ b ∨ b < B) : UT w' S (Fr B L' w') u := by
  refine (h.go hS fun b hb => k.block b hb.2.1 fun hm => ?_).mono (fun b hb => hb) fun b hb => ⟨hb.1, Nat.lt_of_lt_of_le hb.2.1 k.size, fun hm => ?_⟩
  · rcases hM b hm with e | e | e
    · exact hb.2.2 e
    · have := hb.2.1; omega
    · have := hb.1; omega
  · rcases hL b hm with e | e | e
    · exact hb.2.2 e
    · have := hb.2.1; omega
    · have := hb.1; omega
theorem UT.below (h : UT w S (Fr B L w) u) (hS : ∀ b, S b → b < w.heap.size) (k : Below w.heap.size w w') : UT w' S (Fr B L w') u :=
  h.kept (fun b hb => k.block b (hS b hb)) (Kept.of_below (L := []) k) (by simp) (fun b hb => .inl hb)
theorem UT.in_ (h : UT w S (Fr B' [] w) u) (hB : B ≤ B') (hL : ∀ b ∈ L, b < B') : UT w S (Fr B L w) u :=
  h.mono (fun b hb => hb) fun b hb => ⟨Nat.le_trans hB hb.1, hb.2.1, fun hm => by have := hL b hm; have := hb.1; omega⟩
end
/-- A node whose row grows. -/
structure RowU (w : World) (S : Nat → Prop) (B nb : Nat) (hd : List Value) (v : Value) (us : List Mean.Un) : Prop where
  blk : Blk w nb 83 (hd ++ [v])
  own : w.ownsRow B 59 1 v us.length (uptrs us)
  els : ∀ u ∈ us, UT w S (Fr B (nb :: v.ownBlock.toList) w) u
  nodup : ((us.flatMap Mean.Un.all).map Mean.Un.ad).Nodup
  base : B ≤ w.heap.size
  sub : ∀ b, S b → b < B ∧ b ≠ nb
section
variable {w w' : World} {S : Nat → Prop} {B nb : Nat} {hd : List Value} {v : Value} {us : List Mean.Un}
theorem RowU.sep (h : RowU w S B nb hd v us) : some nb ≠ v.ownBlock := blk_apart h.own h.blk (by decide)
theorem RowU.later (h : RowU w S B nb hd v us) (hb : Below w.heap.size w w') : RowU w' S B nb hd v us :=
  ⟨h.blk.below hb h.blk.lt, own_below h.own hb, fun u hu => (h.els u hu).below (fun b hb' => Nat.lt_of_lt_of_le (h.sub b hb').1 h.base) hb, h.nodup, Nat.le_trans h.base hb.size, h.sub⟩
theorem RowU.lt (h : RowU w S B nb hd v us) {b : Nat} (hb : b ∈ (us.flatMap Mean.Un.all).map Mean.Un.ad) : b < w.heap.size ∧ b ≠ nb := by
  obtain ⟨n, hn, rfl⟩ := List.mem_map.1 hb
  obtain ⟨u, hu, hn⟩ := List.mem_flatMap.1 hn
  have := (h.els u hu).mem (List.mem_map.2 ⟨n, hn, rfl⟩)
  exact ⟨this.2.1, fun e => this.2.2 (by simp [e])⟩
theorem RowU.mut_ge (h : RowU w S B nb hd v us) {B0 : Nat} (h0 : B0 ≤ B) (h1 : B0 ≤ nb) : ∀ b ∈ nb :: v.ownBlock.toList, B0 ≤ b := fun b hb => by
  rcases List.mem_cons.1 hb with e | e
  · rw [e]; exact h1
  · rcases h.own.2 with ⟨rfl, _⟩ | ⟨g, cap, cur, rfl, hg, _⟩
    · simp [Value.ownBlock] at e
    · obtain rfl : b = g := by simpa [Value.ownBlock] using e
      omega
theorem RowU.own_ge (h : RowU w S B nb hd v us) : ∀ b ∈ v.ownBlock.toList, B ≤ b := fun b e => by
  rcases h.own.2 with ⟨rfl, _⟩ | ⟨g, cap, cur, rfl, hg, _⟩
  · simp [Value.ownBlock] at e
  · obtain rfl : b = g := by simpa [Value.ownBlock] using e
    exact hg
/-- One node more. w1: it is there; w2: its pointer, in a row of its own; w3: appended; the field. -/
theorem RowU.put {w1 w2 w3 : World} {u : Mean.Un} {v' : Value} {f5 : hd.length = 5} (h : RowU w S B nb hd v us) (hu : UT w1 S (Fr w.heap.size [] w1) u) (hb1 : Below w.heap.size w w1)
    (hb2 : Below w1.heap.size w1 w2) (ha : Appended B 59 1 v v' us.length 1 (uptrs us) (uptrs [u]) w2 w3) :
    RowU (w3.setCell ⟨nb, 5, none⟩ v') S B nb hd v' (us ++ [u]) ∧ Kept w (w3.setCell ⟨nb, 5, none⟩ v') (nb :: v.ownBlock.toList) ∧ w.heap.size ≤ (w3.setCell ⟨nb, 5, none⟩ v').heap.size := by
  have h2 := h.later (hb1.trans (hb2.mono hb1.size))
  have hu2 : UT w2 S (Fr w.heap.size [] w2) u := hu.below (fun b hb => Nat.lt_of_lt_of_le (Nat.lt_of_lt_of_le (h.sub b hb).1 h.base) hb1.size) hb2
  have hs2 : w.heap.size ≤ w2.heap.size := Nat.le_trans hb1.size hb2.size
  have hbv : ∀ b, v.ownBlock = some b → b < w.heap.size ∧ B ≤ b := fun b hb => by
    rcases h.own.2 with ⟨rfl, _⟩ | ⟨g, cap, cur, rfl, hg, hh, _⟩
    · simp [Value.ownBlock] at hb
    · obtain rfl : g = b := by simpa [Value.ownBlock] using hb
      exact ⟨(Array.getElem?_eq_some_iff.1 hh).1, hg⟩
  have k3 : Kept w2 w3 v.ownBlock.toList := Kept.of_grown' ha.grown
  have k4 : Kept w2 (w3.setCell ⟨nb, 5, none⟩ v') (nb :: v.ownBlock.toList) := (k3.trans (Kept.setCell ⟨nb, 5, none⟩ v')).more fun k hk => by
    simp only [List.mem_append, List.mem_singleton] at hk
    rcases hk with hk | rfl
    · exact .inl (List.mem_cons_of_mem _ hk)
    · exact .inl List.mem_cons_self
  have hnb3 : Blk w3 nb 83 (hd ++ [v]) := h2.blk.grown ha.grown h2.sep
  have hnb4 : Blk (w3.setCell ⟨nb, 5, none⟩ v') nb 83 (hd ++ [v']) := by
    have := hnb3.set_ 5 v'
    rwa [show (hd ++ [v]).set 5 v' = hd ++ [v'] from by rw [List.set_append_right _ _ (by omega), f5]; rfl] at this
  have hap : ∀ b, v'.ownBlock = some b → b ≠ nb := fun b hb e => blk_apart ha.own hnb3 (by decide) (by rw [hb, e])
  have hS : ∀ b, S b → (w3.setCell ⟨nb, 5, none⟩ v').heap[b]? = w2.heap[b]? := fun b hb => k4.block b (Nat.lt_of_lt_of_le (Nat.lt_of_lt_of_le (h.sub b hb).1 h.base) hs2) fun hm => by
    have := h.sub b hb
    rcases List.mem_cons.1 hm with e | e
    · exact this.2 e
    · have := hbv b (by simpa using e); omega
  have hL : ∀ b ∈ nb :: v'.ownBlock.toList, b ∈ nb :: v.ownBlock.toList ∨ w2.heap.size ≤ b ∨ b < B := fun b hb => by
    rcases List.mem_cons.1 hb with e | e
    · exact .inl (by simp [e])
    · rcases ha.at_ with e2 | e2
      · rw [e2] at e; exact .inl (List.mem_cons_of_mem _ e)
      · rw [e2] at e
        simp only [Option.toList_some, List.mem_singleton] at e
        exact .inr (.inl (by omega))
  refine ⟨⟨hnb4, ?_, fun x hx => ?_, ?_, Nat.le_trans h2.base k4.size, h.sub⟩, ?_, Nat.le_trans hs2 k4.size⟩
  · have := own_kept ha.own (Kept.setCell (w := w3) ⟨nb, 5, none⟩ v') fun b hb hm => hap b hb (by simpa using hm)
    rwa [show uptrs us ++ uptrs [u] = uptrs (us ++ [u]) from by simp [uptrs], show us.length + 1 = (us ++ [u]).length from by simp] at this
  · rcases List.mem_append.1 hx with hx | hx
    · exact (h2.els x hx).kept hS k4 (fun b hb => .inl hb) hL
    · simp only [List.mem_singleton] at hx
      subst hx
      have hin : UT w2 S (Fr B (nb :: v.ownBlock.toList) w2) x := hu2.in_ h.base fun b hb => by
        rcases List.mem_cons.1 hb with e | e
        · rw [e]; exact h.blk.lt
        · exact (hbv b (by simpa using e)).1
      exact hin.kept hS k4 (fun b hb => .inl hb) hL
  · rw [List.flatMap_append, List.map_append]
    refine List.nodup_append.2 ⟨h.nodup, by simpa using hu.nodup, fun a ha' b hb e => ?_⟩
    have h3 := (h.lt ha').1
    have h4 := hu.mem (b := b) (by simpa using hb)
    have := h4.1
    omega
  · refine (((Kept.of_below (L := []) (hb1.trans (hb2.mono hb1.size)))).trans k4).more fun k hk => ?_
    exact .inl (by simpa using hk)
/-- The row, done: a node. -/
theorem RowU.done {k : Int} {r : List (Int × Int)} {ra : Option Addr} {rc : Nat} {a i : Int} {z : Bool} {A : Option Addr} {c : Nat} (h : RowU w S B nb [.int .i64 k, .slice ra r.length rc, .int .i64 a, .int .i64 i, .bool z] (.slice A us.length c) us) (hr : RdA w S 2 ra r.length rc (flat r)) {B0 : Nat} (h0 : B0 ≤ B) (h1 : B0 ≤ nb) :
    UT w S (Fr B0 [] w) (.mk nb k r a i z us) := by
  refine ⟨fun n hn => ?_, ?_⟩
  · rw [Mean.all_subs] at hn
    rcases List.mem_cons.1 hn with rfl | hn
    · refine ⟨ra, rc, A, c, ⟨h1, h.blk.lt, by simp⟩, h.blk, hr, ?_⟩
      have ho := h.own
      have hre := Reads.of_own ho
      refine ⟨hre.le, hre.cap, hre.len, fun e => ?_, fun hn => ?_⟩
      · subst e
        rcases ho.2 with ⟨h1, _⟩ | ⟨g, cap, cur, h1, _⟩
        · exact (show us = [] ∧ c = 0 by simpa using h1).2
        · cases h1
      · obtain ⟨g, rfl, -, hg1, hg2⟩ := own_form ho hn
        exact ⟨g, 0, rfl, ⟨Nat.le_trans h0 hg1, hg2, by simp⟩, fun j x hx => hre.cellAt hx⟩
    · rw [Mean.allU_flat] at hn
      obtain ⟨u, hu, hn⟩ := List.mem_flatMap.1 hn
      obtain ⟨ra', rc', sa', sc', hd'⟩ := (h.els u hu).nodes n hn
      exact ⟨ra', rc', sa', sc', hd'.mono (fun b hb => hb) fun b hb => ⟨Nat.le_trans h0 hb.1, hb.2.1, by simp⟩⟩
  · rw [Mean.all_subs, Mean.allU_flat, List.map_cons]
    exact List.nodup_cons.2 ⟨fun hm => (h.lt hm).2 rfl, h.nodup⟩
end
end Go.Proofs.Ytjeljlgjkjeloaa
