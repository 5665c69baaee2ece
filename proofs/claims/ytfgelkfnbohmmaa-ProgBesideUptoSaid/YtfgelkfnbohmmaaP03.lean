/- Words for memory: an append of whatever slice that reads (nil, empty, or not) onto a row of the call's own. No program here. -/
import Derived.Laws.AppendOwnNone
import Derived.WalkSmall
import Derived.Handy
import Derived.Laws.Rows
import Derived.Laws.ResultCell
import Derived.Test.YtfgelkfnbohmmaaP00
import Derived.Test.YtfgelkfnbohmmaaP02
namespace Go.Proofs.Ytfgelkfnbohmmaa
open Go.RowKit
theorem own_lower {w : World} {base base' : Nat} {e : TypeId} {size : Nat} {v : Value} {n : Nat} {xs : List Value} (h : w.ownsRow base e size v n xs) (hb : base' ≤ base) : w.ownsRow base' e size v n xs :=
  ⟨h.1, h.2.imp id fun ⟨g, cap, cur, h1, h2, h3⟩ => ⟨g, cap, cur, h1, by omega, h3⟩⟩
section
variable {P : Program} {w : World}
theorem wpList_append_reads {ops : Array Oper} {rest : List Oper} {o : Oper} {a : Act} {Q : Exit → Act → World → Prop} (hgd : o.guard = none) (s x : Operand) (t : TypeId)
    (ho : o.op = .call { callee := .builtin .append, args := #[s, x], argTypes := #[t, t] })
    (base : Nat) (e : TypeId) (i : TypeInfo) (z : Value) (size bytes : Nat) (ht : P.underlying t = some (.slice e)) (hi : P.info? e = some i) (hz : i.zero = some z)
    (hsize : i.size = size) (hby : i.bytes = bytes) (hzs : z.cells.size = size) (hsz : 0 < size)
    (v : Value) (n : Nat) (xs : List Value) (hs : a.eval s = v) (hown : w.ownsRow base e size v n xs)
    (A : Option Addr) (B m c : Nat) (news : List Value) (hx : a.eval x = .slice A m c) (hA : A = none → c = 0) (hr : Reads w B size A m c news) (h1 : ∀ u ∈ news, u.oneCell' = true)
    (h63 : n + m ≤ maxLen) (hbytes : (n + m) * bytes ≤ 140737488355328) (hbase : base ≤ w.heap.size)
    (h : ∀ v' w', Appended base e size v v' n m xs news w w' → wpList P ops Q rest (a.put o.dst v') w') :
    wpList P ops Q (o :: rest) a w := by
  cases A with
  | none =>
    obtain rfl : c = 0 := hA rfl
    obtain rfl : m = 0 := by have := hr.le; omega
    obtain rfl : news = [] := List.eq_nil_of_length_eq_zero (by rw [hr.len, Nat.zero_mul])
    exact wpList_append_own_none hgd s x t ho base e i size ht hi v n xs hs hown hx (h v w ⟨by simpa using hown, hown, World.grownBy.refl _ _, .inl rfl⟩)
  | some ad =>
    refine wpList_append_keep _ hgd s x t ho base e i z size bytes ht hi hz hsize hby hzs hsz v n xs hs hown ad m c news hx hr.len (fun j u hu => ?_) h1 h63 hbytes hbase h
    have hm : 0 < m := by
      rcases Nat.eq_zero_or_pos m with h0 | h0
      · subst h0
        have := hr.len
        rw [Nat.zero_mul] at this
        rw [List.eq_nil_of_length_eq_zero this] at hu
        cases hu
      · exact h0
    obtain ⟨b, off, e1, _, hc⟩ := hr.at_ hm
    obtain rfl := Option.some.inj e1
    rw [add_lit]
    exact hc j u hu
end
end Go.Proofs.Ytfgelkfnbohmmaa
namespace Go.Proofs.Ytfgelkfnbohmmaa
open Go.RowKit
/-- w' is w with new blocks, and writes to the blocks of L alone. -/
structure Kept (w w' : World) (L : List Nat) : Prop where
  os : w'.os = w.os
  tape : w'.tape = w.tape
  output : w'.output = w.output
  size : w.heap.size ≤ w'.heap.size
  block : ∀ k, k < w.heap.size → k ∉ L → w'.heap[k]? = w.heap[k]?
section
variable {w w' w'' : World} {L M : List Nat}
theorem Kept.refl : Kept w w L := ⟨rfl, rfl, rfl, Nat.le_refl _, fun _ _ _ => rfl⟩
theorem Kept.trans (h : Kept w w' L) (g : Kept w' w'' M) : Kept w w'' (L ++ M) :=
  ⟨g.os.trans h.os, g.tape.trans h.tape, g.output.trans h.output, Nat.le_trans h.size g.size, fun k hk hn => by
    rw [List.mem_append, not_or] at hn
    exact (g.block k (Nat.lt_of_lt_of_le hk h.size) hn.2).trans (h.block k hk hn.1)⟩
theorem Kept.more (h : Kept w w' L) (hs : ∀ k ∈ L, k ∈ M ∨ w.heap.size ≤ k) : Kept w w' M :=
  ⟨h.os, h.tape, h.output, h.size, fun k hk hn => h.block k hk fun hm => by
    rcases hs k hm with g | g
    · exact hn g
    · omega⟩
theorem Kept.of_below (h : Below w.heap.size w w') : Kept w w' L := ⟨h.os, h.tape, h.output, h.size, fun k hk _ => h.block k hk⟩
theorem Kept.of_grown' {row : Option Nat} (h : w.grownBy w' row) : Kept w w' row.toList := ⟨h.os, h.tape, h.output, h.size, fun k hk hn => h.block k hk (fun e => hn (by rw [← e]; simp))⟩
theorem Kept.setCell (p : Addr) (u : Value) : Kept w (w.setCell p u) [p.block] :=
  ⟨rfl, rfl, rfl, by simp [World.setCell], fun k _ hn => Below.heap_setCell w p u k (by simpa using hn)⟩
theorem Kept.alloc (o : Obj) : Kept w (w.alloc o) L := Kept.of_below ((Below.refl _ _).alloc (Nat.le_refl _) o)
theorem Kept.drew : Kept w w.drew L := ⟨rfl, rfl, rfl, Nat.le_refl _, fun _ _ _ => rfl⟩
theorem Kept.drewN (n : Nat) : Kept w (w.drewN n) L := ⟨rfl, rfl, rfl, Nat.le_refl _, fun _ _ _ => rfl⟩
theorem Kept.below {B : Nat} (h : Kept w w' L) (hL : ∀ k ∈ L, B ≤ k) (hB : B ≤ w.heap.size) : Below B w w' :=
  ⟨h.os, h.tape, h.output, h.size, fun k hk => h.block k (by omega) fun hm => by have := hL k hm; omega⟩
theorem Below.kept {B : Nat} {w0 : World} (h : Below B w0 w) (g : Kept w w' L) (hL : ∀ k ∈ L, B ≤ k) (hB : B ≤ w.heap.size) : Below B w0 w' := h.trans (g.below hL hB)
theorem Kept.cell (h : Kept w w' L) {p : Addr} (hp : p.block < w.heap.size) (hn : p.block ∉ L) : w'.cell? p = w.cell? p := World.cell?_of_block (h.block _ hp hn)
theorem Blk.kept {g : Nat} {t : TypeId} {cs : List Value} (h : Blk w g t cs) (k : Kept w w' L) (hn : g ∉ L) : Blk w' g t cs := (k.block g h.lt hn).trans h
theorem own_kept {base : Nat} {e : TypeId} {size : Nat} {v : Value} {n : Nat} {xs : List Value} (h : w.ownsRow base e size v n xs) (k : Kept w w' L) (hn : ∀ b, v.ownBlock = some b → b ∉ L) : w'.ownsRow base e size v n xs := by
  refine ⟨h.1, h.2.imp id fun ⟨g, cap, cur, hv, hb, hh, h3⟩ => ⟨g, cap, cur, hv, hb, ?_, h3⟩⟩
  have hlt := (Array.getElem?_eq_some_iff.1 hh).1
  rw [k.block g hlt (hn g (by rw [hv]; rfl))]
  exact hh
theorem Reads.kept {B size n c : Nat} {A : Option Addr} {xs : List Value} (h : Reads w B size A n c xs) (k : Kept w w' L) (hL : ∀ b ∈ L, B ≤ b) (hB : B ≤ w.heap.size) : Reads w' B size A n c xs := h.below (k.below hL hB)
end
/-- A row of the call's own, shorter. -/
theorem own_shrink {w : World} {base : Nat} {e : TypeId} {size : Nat} {A : Option Addr} {c n m : Nat} {xs ys : List Value} (h : w.ownsRow base e size (.slice A n c) n (xs ++ ys)) (hx : xs.length = m * size) (hm : m ≤ n) (hA : A ≠ none) : w.ownsRow base e size (.slice A m c) m xs := by
  rcases h.2 with ⟨h1, _⟩ | ⟨g, cap, cur, hv, hb, hh, hnc, hcm, hcs, ht⟩
  · simp only [Value.slice.injEq] at h1; exact absurd h1.1 hA
  · simp only [Value.slice.injEq, true_and] at hv
    obtain ⟨rfl, rfl⟩ := hv
    refine ⟨hx, .inr ⟨g, c, cur, rfl, hb, hh, by omega, hcm, hcs, ?_⟩⟩
    have e1 : cur.toList.take (m * size) = (cur.toList.take (n * size)).take (m * size) := by rw [List.take_take, Nat.min_eq_left (Nat.mul_le_mul_right _ hm)]
    rw [e1, ht, ← hx]
    exact List.take_left
end Go.Proofs.Ytfgelkfnbohmmaa
namespace Go.Proofs.Ytfgelkfnbohmmaa
open Go.RowKit Go.Proofs.Ytfgelkfnbohmmaa.Mach
/-- The cells of an instruction. -/
def insVals (I : Ins) (A : Option Addr) (n c : Nat) : List Value := [.int .i64 I.op, .int .i64 I.x, .int .i64 I.y, .int .i64 I.arg, .slice A n c]
/-- An instruction and where its ranges lie. -/
structure InV where
  I : Ins
  A : Option Addr
  n : Nat
  c : Nat
def insRow (L : List InV) : List Value := L.flatMap fun v => insVals v.I v.A v.n v.c
theorem insRow_length (L : List InV) : (insRow L).length = L.length * 5 := by
  induction L with
  | nil => rfl
  | cons v L ih => simp only [insRow, List.flatMap_cons, List.length_append, List.length_cons] at *; rw [ih, show (insVals v.I v.A v.n v.c).length = 5 from rfl]; omega
theorem insRow_get : ∀ (L : List InV) (j q : Nat) (v : InV), L[j]? = some v → q < 5 → (insRow L)[j * 5 + q]? = (insVals v.I v.A v.n v.c)[q]?
  | [], j, q, v, h, _ => by simp at h
  | u :: L, 0, q, v, h, hq => by
    simp only [List.getElem?_cons_zero, Option.some.injEq] at h
    subst h
    simp only [insRow, List.flatMap_cons, Nat.zero_mul, Nat.zero_add]
    exact List.getElem?_append_left (by simpa [insVals] using hq)
  | u :: L, j + 1, q, v, h, hq => by
    have := insRow_get L j q v (by simpa using h) hq
    have e1 : (j + 1) * 5 + q = 5 + (j * 5 + q) := by omega
    rw [e1]
    simp only [insRow, List.flatMap_cons]
    rw [List.getElem?_append_right (by simp [insVals]), ← this]
    simp [insVals, insRow]
/-- The instructions' slice reads as L, its ranges too. -/
def ReadsP (w : World) (B : Nat) (A : Option Addr) (n c : Nat) (L : List InV) : Prop := Reads w B 5 A n c (insRow L) ∧ ∀ v ∈ L, Reads w B 2 v.A v.n v.c (flat v.I.rng) ∧ (v.A = none → v.c = 0)
def insL (L : List InV) : List Ins := L.map (·.I)
section
variable {w w' : World} {B B' n c : Nat} {A : Option Addr} {L : List InV}
theorem ReadsP.below (h : ReadsP w B A n c L) (hb : Below B w w') : ReadsP w' B A n c L := ⟨h.1.below hb, fun v hv => ⟨(h.2 v hv).1.below hb, (h.2 v hv).2⟩⟩
theorem ReadsP.more (h : ReadsP w B A n c L) (hB : B ≤ B') : ReadsP w B' A n c L := ⟨h.1.more hB, fun v hv => ⟨(h.2 v hv).1.more hB, (h.2 v hv).2⟩⟩
theorem ReadsP.drewN (h : ReadsP w B A n c L) (k : Nat) : ReadsP (w.drewN k) B A n c L := ⟨h.1.drewN k, fun v hv => ⟨(h.2 v hv).1.drewN k, (h.2 v hv).2⟩⟩
theorem ReadsP.len (h : ReadsP w B A n c L) : L.length = n := by have := h.1.len; rw [insRow_length] at this; omega
/-- The cells of an instruction that reads. -/
theorem ReadsP.cells {b off : Nat} (h : ReadsP w B (some ⟨b, off, none⟩) n c L) {j : Nat} {v : InV} (hv : L[j]? = some v) :
    w.cell? ⟨b, off + j * 5, none⟩ = some (.int .i64 v.I.op) ∧ w.cell? ⟨b, off + j * 5 + 1, none⟩ = some (.int .i64 v.I.x) ∧ w.cell? ⟨b, off + j * 5 + 2, none⟩ = some (.int .i64 v.I.y) ∧
    w.cell? ⟨b, off + j * 5 + 3, none⟩ = some (.int .i64 v.I.arg) ∧ w.cell? ⟨b, off + j * 5 + 4, none⟩ = some (.slice v.A v.n v.c) := by
  have g : ∀ q u, q < 5 → (insVals v.I v.A v.n v.c)[q]? = some u → w.cell? ⟨b, off + j * 5 + q, none⟩ = some u := fun q u hq hu => by
    rw [Nat.add_assoc]
    exact h.1.cellAt ((insRow_get L j q v hv hq).trans hu)
  exact ⟨g 0 _ (by omega) rfl, g 1 _ (by omega) rfl, g 2 _ (by omega) rfl, g 3 _ (by omega) rfl, g 4 _ (by omega) rfl⟩
theorem ReadsP.at_ (h : ReadsP w B A n c L) (hn : 0 < n) : ∃ b off, A = some ⟨b, off, none⟩ ∧ b < B := by
  obtain ⟨b, off, e, hb, _⟩ := h.1.at_ hn
  exact ⟨b, off, e, hb⟩
end
end Go.Proofs.Ytfgelkfnbohmmaa
namespace Go.Proofs.Ytfgelkfnbohmmaa
open Go.RowKit
def isRow (d : TypeDesc) : Bool := match d with | .struct _ | .array _ _ => true | _ => false
theorem results_cell_tmp_row {P : Program} {fn : Func} {p u : Tmp} {ty : TypeId} (h : fn.results = #[.cell p ty, .tmp u]) (tmps : Array Value) (w : World) (g : Nat) (t : TypeId) (cs : Array Value) (d : TypeDesc)
    (hp : tmps.getD p undef = .pointer (some ⟨g, 0, none⟩)) (hg : Blk w g t cs.toList)
    (hu : P.underlying ty = some d) (hd : isRow d = true) (hi : (P.info? ty).map (·.size) = some cs.size) :
    (results fn tmps).run P w = .ok (.tuple #[.agg cs, tmps.getD u undef]) w := by
  have hp' : tmps[p]?.getD undef = .pointer (some ⟨g, 0, none⟩) := by simpa using hp
  rw [results_cell_tmp h]
  simp [asAddr, hp', Result.andThen, run_loadVar_row w g t ty cs (0, 0) d hg hu (by cases d <;> first | rfl | (simp [isRow] at hd)) hi]
theorem results_cell_one {P : Program} {fn : Func} {p : Tmp} {ty : TypeId} (h : fn.results = #[.cell p ty]) (tmps : Array Value) (w : World) (g : Nat) (t : TypeId) (cs : Array Value) (d : TypeDesc)
    (hp : tmps.getD p undef = .pointer (some ⟨g, 0, none⟩)) (hg : Blk w g t cs.toList)
    (hu : P.underlying ty = some d) (hd : isRow d = true) (hi : (P.info? ty).map (·.size) = some cs.size) :
    (results fn tmps).run P w = .ok (.agg cs) w :=
  Go.results_cell_row h tmps w g t cs (0, 0) d hp hg hu (by cases d <;> first | rfl | (simp [isRow] at hd)) hi
theorem two_below (w : World) (o o' : Obj) : Below w.heap.size w ((w.alloc o).alloc o') := ((Below.refl _ _).alloc (Nat.le_refl _) _).alloc (by simp) _
theorem two_blk (w : World) (o : Obj) (t : TypeId) (cs : List Value) : Blk ((w.alloc o).alloc (.cells cs.toArray t)) (w.heap.size + 1) t cs := by
  have := Blk.new (w.alloc o) t cs
  rw [show (w.alloc o).heap.size = w.heap.size + 1 from by simp] at this
  exact this
theorem blk_eq {w : World} {g : Nat} {t : TypeId} {cs cs' : List Value} (h : Blk w g t cs) (e : cs = cs') : Blk w g t cs' := e ▸ h
end Go.Proofs.Ytfgelkfnbohmmaa
namespace Go.Proofs.Ytfgelkfnbohmmaa
open Go.RowKit Go.Proofs.Ytfgelkfnbohmmaa.Mach
/-- One result, a struct's cells. -/
theorem results_cell_row {P : Program} {fn : Func} {p : Tmp} {ty : TypeId} (h : fn.results = #[.cell p ty]) (tmps : Array Value) (w : World) (g : Nat) (t : TypeId) (cs : Array Value) (d : TypeDesc)
    (hp : tmps.getD p undef = .pointer (some ⟨g, 0, none⟩)) (hg : Blk w g t cs.toList)
    (hu : P.underlying ty = some d) (hd : isRow d = true) (hi : (P.info? ty).map (·.size) = some cs.size) :
    (results fn tmps).run P w = .ok (.agg cs) w := by
  have hp' : tmps[p]?.getD undef = .pointer (some ⟨g, 0, none⟩) := by simpa using hp
  simp [results, h, asAddr, hp', Result.andThen, run_loadVar_row w g t ty cs (0, 0) d hg hu (by cases d <;> first | rfl | (simp [isRow] at hd)) hi]
theorem size_prog : (Try.prog.info? 30).map (·.size) = some 3 := by kernel_rfl
theorem und_prog : ∃ d, Try.prog.underlying 30 = some d ∧ isRow d = true := ⟨_, Try.underlying30, rfl⟩
end Go.Proofs.Ytfgelkfnbohmmaa
namespace Go.Proofs.Ytfgelkfnbohmmaa.Tr
/-- A node. -/
inductive Tr where
  | mk (kind : Int) (rng : List (Int × Int)) (ast : Int) (subs : List Tr) (mn mx : Int) (lz : Bool) (ix : Int) (nm : ByteArray)
def Tr.kind : Tr → Int | .mk k _ _ _ _ _ _ _ _ => k
def Tr.rng : Tr → List (Int × Int) | .mk _ r _ _ _ _ _ _ _ => r
def Tr.ast : Tr → Int | .mk _ _ a _ _ _ _ _ _ => a
def Tr.subs : Tr → List Tr | .mk _ _ _ s _ _ _ _ _ => s
def Tr.mn : Tr → Int | .mk _ _ _ _ n _ _ _ _ => n
def Tr.mx : Tr → Int | .mk _ _ _ _ _ m _ _ _ => m
def Tr.lz : Tr → Bool | .mk _ _ _ _ _ _ z _ _ => z
def Tr.ix : Tr → Int | .mk _ _ _ _ _ _ _ i _ => i
def Tr.nm : Tr → ByteArray | .mk _ _ _ _ _ _ _ _ s => s
theorem Tr.ind {P : Tr → Prop} (h : ∀ t, (∀ s ∈ t.subs, P s) → P t) : ∀ t, P t := fun t =>
  Tr.rec (motive_1 := P) (motive_2 := fun l => ∀ s ∈ l, P s) (fun k r a l n m z i s ih => h (.mk k r a l n m z i s) ih) (by simp) (fun a l ha hl => by intro s hs; rcases List.mem_cons.1 hs with rfl | hs; exact ha; exact hl s hs) t
mutual
def size : Tr → Nat
  | .mk _ _ _ l _ _ _ _ _ => sizes l + 1
def sizes : List Tr → Nat
  | [] => 0
  | t :: l => size t + sizes l
end
mutual
def deep : Tr → Nat
  | .mk _ _ _ l _ _ _ _ _ => deeps l + 1
def deeps : List Tr → Nat
  | [] => 0
  | t :: l => max (deep t) (deeps l)
end
theorem size_pos (t : Tr) : 1 ≤ size t := by cases t; rw [size]; omega
theorem deep_pos (t : Tr) : 1 ≤ deep t := by cases t; rw [deep]; omega
def letterB (c : UInt8) : Bool := (decide (97 ≤ c.toNat) && decide (c.toNat ≤ 122)) || (decide (65 ≤ c.toNat) && decide (c.toNat ≤ 90)) || c.toNat == 95
def digitB (c : UInt8) : Bool := decide (48 ≤ c.toNat) && decide (c.toNat ≤ 57)
/-- Is a text a name? -/
def nameB (s : ByteArray) : Bool := decide (1 ≤ s.size) && decide (s.size ≤ 32) && (s.data.toList.all fun c => letterB c || digitB c) && !(digitB (s.data.toList.getD 0 0))
def noName (s : ByteArray) : Bool := decide (s.size = 0)
def assertB (n : Int) : Bool := n == 1 || n == 2 || n == 4 || n == 8 || n == 16 || n == 32
/-- Are all fields zero but those that are named? -/
def zeroB (r : List (Int × Int)) (a n m : Int) (z : Bool) (i : Int) (s : ByteArray) : Bool := r.isEmpty && (a == 0 && (n == 0 && (m == 0 && (!z && (i == 0 && noName s)))))
def nodeF (k : Int) (r : List (Int × Int)) (a : Int) (q : Nat) (n m : Int) (z : Bool) (i : Int) (s : ByteArray) : Bool :=
  if k = 1 then zeroB r a n m z i s && q == 0
  else if k = 2 then zeroB [] a n m z i s && (q == 0 && rightB r)
  else if k = 3 then zeroB r 0 n m z i s && (q == 0 && assertB a)
  else if k = 4 then zeroB r a n m z i s && decide (2 ≤ q)
  else if k = 5 then zeroB r a n m z i s && decide (2 ≤ q)
  else if k = 6 then zeroB r a 0 0 false i s && (q == 1 && (decide (0 ≤ n) && (decide (n ≤ 1000) && (m == -1 || (decide (n ≤ m) && decide (m ≤ 1000))))))
  else if k = 7 then zeroB r a n m z 0 .empty && (q == 1 && (decide (1 ≤ i) && (decide (i ≤ 500) && (noName s || nameB s))))
  else false
/-- May a node be, those below it apart? -/
def nodeB : Tr → Bool
  | .mk k r a l n m z i s => nodeF k r a l.length n m z i s
mutual
def allB : Tr → Bool
  | .mk k r a l n m z i s => nodeB (.mk k r a l n m z i s) && allsB l
def allsB : List Tr → Bool
  | [] => true
  | t :: l => allB t && allsB l
end
theorem allsB_iff : ∀ l : List Tr, allsB l = true ↔ ∀ t ∈ l, allB t = true
  | [] => by simp [allsB]
  | t :: l => by rw [allsB, Bool.and_eq_true, allsB_iff l]; simp
theorem allB_iff (t : Tr) : allB t = true ↔ nodeB t = true ∧ ∀ s ∈ t.subs, allB s = true := by
  cases t with
  | mk k r a l n m z i s => rw [allB, Bool.and_eq_true, allsB_iff]; rfl
def soundB (t : Tr) : Bool := allB t && decide (deep t ≤ 10000) && decide (size t ≤ 200000)
end Go.Proofs.Ytfgelkfnbohmmaa.Tr
