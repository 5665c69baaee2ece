/- meaning.unfolded: what stands when a repeat is unfolded. -/
import Derived.Test.YtjeljlgjkjeloaaQUf3
import Derived.Laws.EntriesVeiled
import Derived.Deep.RegionHeld3
namespace Go.Proofs.Ytjeljlgjkjeloaa
open Go.RowKit Go.Proofs.Ytjeljlgjkjeloaa.Tr

theorem UT.low {w : World} {S : Nat → Prop} {B B0 : Nat} {u : Mean.Un} (h : UT w S (Fr B [] w) u) (hB : B0 ≤ B) : UT w S (Fr B0 [] w) u := h.mono (fun b hb => hb) fun b hb => ⟨Nat.le_trans hB hb.1, hb.2.1, hb.2.2⟩
theorem cons_of {n : Nat} {l : List Value} (h : l.length = n + 1) : ∃ u l', l = u :: l' ∧ l'.length = n := by
  match l, h with
  | u :: l', h => exact ⟨u, l', rfl, by simpa using h⟩
/-- Behind a growth of the row: the frame, the row. -/
def RepR (w1 : World) (S : Nat → Prop) (b0 bx bo nb b off sc : Nat) (x : Ta) (L : List Us) (a : Act) (w : World) : Prop :=
  ∃ tm : List Value, a = ⟨tm.toArray, []⟩ ∧ tm.length = 133 ∧ tm[8]? = some (.pointer (some ⟨bo, 0, none⟩)) ∧ ∃ A c us, RepOk w1 S b0 bx bo nb b off sc x w (.slice A us.length c) us ∧ shUs us = L
theorem plus_leaf {w1 w w5 w6 w7 : World} {S : Nat → Prop} {b0 bx bo nb b off sc : Nat} {x : Ta} {v : Value} {vs : List Mean.Un} {u6 : Mean.Un} {A7 : Option Addr} {c7 : Nat} {L : List Us} {y : Us} (h : RepOk w1 S b0 bx bo nb b off sc x w v vs)
    (hu : UT w5 S (Fr w.heap.size [] w5) u6) (hb5 : Below w.heap.size w w5) (hb6 : Below w5.heap.size w5 w6) (ha : Appended w1.heap.size 59 1 v (.slice A7 (vs.length + 1) c7) vs.length 1 (uptrs vs) (uptrs [u6]) w6 w7) (hy : shU u6 = y) (hL : shUs vs = L) :
    ∃ A c us, RepOk w1 S b0 bx bo nb b off sc x (w7.setCell ⟨nb, 5, none⟩ (.slice A7 (vs.length + 1) c7)) (.slice A us.length c) us ∧ shUs us = L ++ [y] := by
  have hput := RowU.put (f5 := rfl) h.row hu hb5 hb6 ha
  have hrep := h.keep hput.2.1 (fun c hc => (List.mem_cons.1 hc).elim (fun e => .inl e) (fun e => .inr (h.row.own_ge c e))) hput.1
  refine ⟨A7, c7, vs ++ [u6], ?_, ?_⟩
  · rw [show (vs ++ [u6]).length = vs.length + 1 from by simp]; exact hrep
  · rw [shUs_map, List.map_append, ← shUs_map, hL, List.map_singleton, hy]
theorem alloc_set (w : World) (a v : Value) (t : TypeId) (g : Nat) (hg : g = w.heap.size) : (w.alloc (.cells #[a] t)).setCell ⟨g, 0, none⟩ v = w.alloc (.cells #[v] t) := by
  rw [World.setCell_alloc_at _ _ _ _ _ hg]
  simp
theorem rep_start (S : Nat → Prop) (w : World) (r : List (Int × Int)) (ra : Option Addr) (rc : Nat) (ast mn mx : Int) (z : Bool) (ix : Int) (nm : ByteArray) (b off sc : Nat) (x : Ta) (hS : ∀ c, S c → c < w.heap.size) (hb : S b) (hc : ∀ j, j < 9 → w.cell? ⟨b, off + j, none⟩ = x.vals[j]?) (hx : RT w S x) :
    Below w.heap.size w ((((w.alloc (.cells #[.int .i64 6, .slice ra r.length rc, .int .i64 ast, .slice (some ⟨b, off, none⟩) 1 sc, .int .i64 mn, .int .i64 mx, .bool z, .int .i64 ix, .string nm] 28)).alloc (.cells #[(.func (Fn.func 52) #[] #[.pointer (some ⟨w.heap.size, 0, none⟩)])] 89)).alloc (.cells #[.int .i64 4, .slice none 0 0, .int .i64 0, .int .i64 0, .bool false, .slice none 0 0] 83)).alloc (.cells #[.pointer (some ⟨w.heap.size + 2, 0, none⟩)] 59)) ∧ ((((w.alloc (.cells #[.int .i64 6, .slice ra r.length rc, .int .i64 ast, .slice (some ⟨b, off, none⟩) 1 sc, .int .i64 mn, .int .i64 mx, .bool z, .int .i64 ix, .string nm] 28)).alloc (.cells #[(.func (Fn.func 52) #[] #[.pointer (some ⟨w.heap.size, 0, none⟩)])] 89)).alloc (.cells #[.int .i64 4, .slice none 0 0, .int .i64 0, .int .i64 0, .bool false, .slice none 0 0] 83)).alloc (.cells #[.pointer (some ⟨w.heap.size + 2, 0, none⟩)] 59)).heap.size = w.heap.size + 4 ∧ Blk ((((w.alloc (.cells #[.int .i64 6, .slice ra r.length rc, .int .i64 ast, .slice (some ⟨b, off, none⟩) 1 sc, .int .i64 mn, .int .i64 mx, .bool z, .int .i64 ix, .string nm] 28)).alloc (.cells #[(.func (Fn.func 52) #[] #[.pointer (some ⟨w.heap.size, 0, none⟩)])] 89)).alloc (.cells #[.int .i64 4, .slice none 0 0, .int .i64 0, .int .i64 0, .bool false, .slice none 0 0] 83)).alloc (.cells #[.pointer (some ⟨w.heap.size + 2, 0, none⟩)] 59)) w.heap.size 28 [.int .i64 6, .slice ra r.length rc, .int .i64 ast, .slice (some ⟨b, off, none⟩) 1 sc, .int .i64 mn, .int .i64 mx, .bool z, .int .i64 ix, .string nm] ∧ RepOk ((((w.alloc (.cells #[.int .i64 6, .slice ra r.length rc, .int .i64 ast, .slice (some ⟨b, off, none⟩) 1 sc, .int .i64 mn, .int .i64 mx, .bool z, .int .i64 ix, .string nm] 28)).alloc (.cells #[(.func (Fn.func 52) #[] #[.pointer (some ⟨w.heap.size, 0, none⟩)])] 89)).alloc (.cells #[.int .i64 4, .slice none 0 0, .int .i64 0, .int .i64 0, .bool false, .slice none 0 0] 83)).alloc (.cells #[.pointer (some ⟨w.heap.size + 2, 0, none⟩)] 59)) S w.heap.size (w.heap.size + 1) (w.heap.size + 3) (w.heap.size + 2) b off sc x ((((w.alloc (.cells #[.int .i64 6, .slice ra r.length rc, .int .i64 ast, .slice (some ⟨b, off, none⟩) 1 sc, .int .i64 mn, .int .i64 mx, .bool z, .int .i64 ix, .string nm] 28)).alloc (.cells #[(.func (Fn.func 52) #[] #[.pointer (some ⟨w.heap.size, 0, none⟩)])] 89)).alloc (.cells #[.int .i64 4, .slice none 0 0, .int .i64 0, .int .i64 0, .bool false, .slice none 0 0] 83)).alloc (.cells #[.pointer (some ⟨w.heap.size + 2, 0, none⟩)] 59)) (.slice none 0 0) [] := by
  have e1 : (w.alloc (.cells #[.int .i64 6, .slice ra r.length rc, .int .i64 ast, .slice (some ⟨b, off, none⟩) 1 sc, .int .i64 mn, .int .i64 mx, .bool z, .int .i64 ix, .string nm] 28)).heap.size = w.heap.size + 1 := by simp
  have e2 : ((w.alloc (.cells #[.int .i64 6, .slice ra r.length rc, .int .i64 ast, .slice (some ⟨b, off, none⟩) 1 sc, .int .i64 mn, .int .i64 mx, .bool z, .int .i64 ix, .string nm] 28)).alloc (.cells #[(.func (Fn.func 52) #[] #[.pointer (some ⟨w.heap.size, 0, none⟩)])] 89)).heap.size = w.heap.size + 2 := by simp
  have e3 : (((w.alloc (.cells #[.int .i64 6, .slice ra r.length rc, .int .i64 ast, .slice (some ⟨b, off, none⟩) 1 sc, .int .i64 mn, .int .i64 mx, .bool z, .int .i64 ix, .string nm] 28)).alloc (.cells #[(.func (Fn.func 52) #[] #[.pointer (some ⟨w.heap.size, 0, none⟩)])] 89)).alloc (.cells #[.int .i64 4, .slice none 0 0, .int .i64 0, .int .i64 0, .bool false, .slice none 0 0] 83)).heap.size = w.heap.size + 3 := by simp
  have e4 : ((((w.alloc (.cells #[.int .i64 6, .slice ra r.length rc, .int .i64 ast, .slice (some ⟨b, off, none⟩) 1 sc, .int .i64 mn, .int .i64 mx, .bool z, .int .i64 ix, .string nm] 28)).alloc (.cells #[(.func (Fn.func 52) #[] #[.pointer (some ⟨w.heap.size, 0, none⟩)])] 89)).alloc (.cells #[.int .i64 4, .slice none 0 0, .int .i64 0, .int .i64 0, .bool false, .slice none 0 0] 83)).alloc (.cells #[.pointer (some ⟨w.heap.size + 2, 0, none⟩)] 59)).heap.size = w.heap.size + 4 := by simp
  have k0 := (((Blk.new w 28 [.int .i64 6, .slice ra r.length rc, .int .i64 ast, .slice (some ⟨b, off, none⟩) 1 sc, .int .i64 mn, .int .i64 mx, .bool z, .int .i64 ix, .string nm]).alloc (.cells #[(.func (Fn.func 52) #[] #[.pointer (some ⟨w.heap.size, 0, none⟩)])] 89)).alloc (.cells #[.int .i64 4, .slice none 0 0, .int .i64 0, .int .i64 0, .bool false, .slice none 0 0] 83)).alloc (.cells #[.pointer (some ⟨w.heap.size + 2, 0, none⟩)] 59)
  have k1 := ((Blk.new (w.alloc (.cells #[.int .i64 6, .slice ra r.length rc, .int .i64 ast, .slice (some ⟨b, off, none⟩) 1 sc, .int .i64 mn, .int .i64 mx, .bool z, .int .i64 ix, .string nm] 28)) 89 [(.func (Fn.func 52) #[] #[.pointer (some ⟨w.heap.size, 0, none⟩)])]).alloc (.cells #[.int .i64 4, .slice none 0 0, .int .i64 0, .int .i64 0, .bool false, .slice none 0 0] 83)).alloc (.cells #[.pointer (some ⟨w.heap.size + 2, 0, none⟩)] 59)
  have k2 := (Blk.new ((w.alloc (.cells #[.int .i64 6, .slice ra r.length rc, .int .i64 ast, .slice (some ⟨b, off, none⟩) 1 sc, .int .i64 mn, .int .i64 mx, .bool z, .int .i64 ix, .string nm] 28)).alloc (.cells #[(.func (Fn.func 52) #[] #[.pointer (some ⟨w.heap.size, 0, none⟩)])] 89)) 83 [.int .i64 4, .slice none 0 0, .int .i64 0, .int .i64 0, .bool false, .slice none 0 0]).alloc (.cells #[.pointer (some ⟨w.heap.size + 2, 0, none⟩)] 59)
  have k3 := Blk.new (((w.alloc (.cells #[.int .i64 6, .slice ra r.length rc, .int .i64 ast, .slice (some ⟨b, off, none⟩) 1 sc, .int .i64 mn, .int .i64 mx, .bool z, .int .i64 ix, .string nm] 28)).alloc (.cells #[(.func (Fn.func 52) #[] #[.pointer (some ⟨w.heap.size, 0, none⟩)])] 89)).alloc (.cells #[.int .i64 4, .slice none 0 0, .int .i64 0, .int .i64 0, .bool false, .slice none 0 0] 83)) 59 [.pointer (some ⟨w.heap.size + 2, 0, none⟩)]
  rw [e1] at k1
  rw [e2] at k2
  rw [e3] at k3
  have hbw : Below w.heap.size w ((((w.alloc (.cells #[.int .i64 6, .slice ra r.length rc, .int .i64 ast, .slice (some ⟨b, off, none⟩) 1 sc, .int .i64 mn, .int .i64 mx, .bool z, .int .i64 ix, .string nm] 28)).alloc (.cells #[(.func (Fn.func 52) #[] #[.pointer (some ⟨w.heap.size, 0, none⟩)])] 89)).alloc (.cells #[.int .i64 4, .slice none 0 0, .int .i64 0, .int .i64 0, .bool false, .slice none 0 0] 83)).alloc (.cells #[.pointer (some ⟨w.heap.size + 2, 0, none⟩)] 59)) := ((((Below.refl _ _).alloc (Nat.le_refl _) _).alloc (by rw [e1]; omega) _).alloc (by rw [e2]; omega) _).alloc (by rw [e3]; omega) _
  refine ⟨hbw, e4, k0, ⟨Kept.refl, ⟨k2, World.ownsRow_nil _ _ _ _, by simp, by simp, Nat.le_refl _, fun c hc' => by have := hS c hc'; rw [e4]; omega⟩, ⟨k0.cell 3, fun j hj => (hbw.cell (p := ⟨b, off + j, none⟩) (hS b hb)).trans (hc j hj), hx.below hS hbw, fun c hc' => by have := hS c hc'; rw [e4]; omega, by rw [e4]; omega, hb⟩, k1.cell 0, k3.cell 0, by rw [e4]; omega⟩⟩
end Go.Proofs.Ytjeljlgjkjeloaa
/- meaning.unfolded: two nodes one behind the other. -/
namespace Go.Proofs.Ytjeljlgjkjeloaa
open Go.RowKit Go.Proofs.Ytjeljlgjkjeloaa.Tr

theorem cat2 {w5 : World} {S : Nat → Prop} {B B1 : Nat} {u5 la : Mean.Un} (hu : UT w5 S (Fr B1 [] w5) u5) (hl : UT w5 S (Fr B [] w5) la) (hd : ∀ b ∈ la.all.map Mean.Un.ad, b < B1) (hB : B ≤ B1) (hB5 : B1 ≤ w5.heap.size) (hS : ∀ b, S b → b < w5.heap.size) :
    Below w5.heap.size w5 ((w5.alloc (.cells #[.pointer (some ⟨u5.ad, 0, none⟩), .pointer (some ⟨la.ad, 0, none⟩)] 59)).alloc (.cells #[.int .i64 4, .slice none 0 0, .int .i64 0, .int .i64 0, .bool false, .slice (some ⟨w5.heap.size, 0, none⟩) 2 2] 83)) ∧ UT ((w5.alloc (.cells #[.pointer (some ⟨u5.ad, 0, none⟩), .pointer (some ⟨la.ad, 0, none⟩)] 59)).alloc (.cells #[.int .i64 4, .slice none 0 0, .int .i64 0, .int .i64 0, .bool false, .slice (some ⟨w5.heap.size, 0, none⟩) 2 2] 83)) S (Fr B [] ((w5.alloc (.cells #[.pointer (some ⟨u5.ad, 0, none⟩), .pointer (some ⟨la.ad, 0, none⟩)] 59)).alloc (.cells #[.int .i64 4, .slice none 0 0, .int .i64 0, .int .i64 0, .bool false, .slice (some ⟨w5.heap.size, 0, none⟩) 2 2] 83))) (.mk (w5.heap.size + 1) 4 [] 0 0 false [u5, la]) := by
  have hb1 : Below w5.heap.size w5 (w5.alloc (.cells #[.pointer (some ⟨u5.ad, 0, none⟩), .pointer (some ⟨la.ad, 0, none⟩)] 59)) := (Below.refl _ _).alloc (Nat.le_refl _) _
  have hb2 : Below w5.heap.size w5 ((w5.alloc (.cells #[.pointer (some ⟨u5.ad, 0, none⟩), .pointer (some ⟨la.ad, 0, none⟩)] 59)).alloc (.cells #[.int .i64 4, .slice none 0 0, .int .i64 0, .int .i64 0, .bool false, .slice (some ⟨w5.heap.size, 0, none⟩) 2 2] 83)) := hb1.alloc (by simp) _
  have k1 := (Blk.new w5 59 [.pointer (some ⟨u5.ad, 0, none⟩), .pointer (some ⟨la.ad, 0, none⟩)]).alloc (.cells #[.int .i64 4, .slice none 0 0, .int .i64 0, .int .i64 0, .bool false, .slice (some ⟨w5.heap.size, 0, none⟩) 2 2] 83)
  have k2 := Blk.new (w5.alloc (.cells #[.pointer (some ⟨u5.ad, 0, none⟩), .pointer (some ⟨la.ad, 0, none⟩)] 59)) 83 [.int .i64 4, .slice none 0 0, .int .i64 0, .int .i64 0, .bool false, .slice (some ⟨w5.heap.size, 0, none⟩) 2 2]
  rw [show (w5.alloc (.cells #[.pointer (some ⟨u5.ad, 0, none⟩), .pointer (some ⟨la.ad, 0, none⟩)] 59)).heap.size = w5.heap.size + 1 from by simp] at k2
  refine ⟨hb2, ?_⟩
  have h1 := (hu.below hS hb2).low hB
  have h2 := hl.below hS hb2
  refine ⟨fun n hn => ?_, ?_⟩
  · rw [Mean.all_subs, Mean.allU_flat] at hn
    rcases List.mem_cons.1 hn with rfl | hn
    · refine ⟨none, 0, some ⟨w5.heap.size, 0, none⟩, 2, ⟨show B ≤ w5.heap.size + 1 from by omega, k2.lt, by simp⟩, k2, RdA.none_, ⟨Nat.le_refl _, by decide, rfl, (fun h => by cases h), fun _ => ⟨w5.heap.size, 0, rfl, ⟨by omega, k1.lt, by simp⟩, fun j v hj => ?_⟩⟩⟩
      rw [Nat.zero_add, k1.cell]; exact hj
    · simp only [Mean.Un.subs, List.flatMap_cons, List.flatMap_nil, List.append_nil, List.mem_append] at hn
      rcases hn with hn | hn
      · exact h1.nodes n hn
      · exact h2.nodes n hn
  · rw [Mean.all_subs, Mean.allU_flat, List.map_cons]
    simp only [Mean.Un.subs, List.flatMap_cons, List.flatMap_nil, List.append_nil, List.map_append]
    refine List.nodup_cons.2 ⟨fun hm => ?_, List.nodup_append.2 ⟨hu.nodup, hl.nodup, fun a ha b hb e => ?_⟩⟩
    · rcases List.mem_append.1 hm with hm | hm
      · have := (hu.mem (b := w5.heap.size + 1) hm).2.1; omega
      · have := (hl.mem (b := w5.heap.size + 1) hm).2.1; omega
    · have h3 := (hu.mem ha).1
      have h4 := hd b hb
      omega
end Go.Proofs.Ytjeljlgjkjeloaa
