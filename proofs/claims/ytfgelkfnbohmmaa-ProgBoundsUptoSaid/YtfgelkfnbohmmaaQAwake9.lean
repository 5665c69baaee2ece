/- heronlaw09.awake. -/
import Derived.Test.YtfgelkfnbohmmaaQCompile
import Derived.Test.YtfgelkfnbohmmaaQSameP
import Derived.Test.YtfgelkfnbohmmaaQMay
namespace Go.Proofs.Ytfgelkfnbohmmaa
open Go.RowKit Go.Proofs.Ytfgelkfnbohmmaa.Mach Go.Proofs.Ytfgelkfnbohmmaa.Tr

def oneT (r : Nat) : Ta := .mk 2 [(97, 97)] (some ⟨r, 0, none⟩) 1 0 [] none 0 0 0 false 0 ⟨#[]⟩
def oneL (r : Nat) : List InV := [⟨⟨3, 1, 0, 0, []⟩, none, 0, 0⟩, ⟨⟨1, 2, 0, 0, [(97, 97)]⟩, some ⟨r, 0, none⟩, 1, 1⟩, ⟨⟨3, 3, 0, 1, []⟩, none, 0, 0⟩, ⟨⟨5, 0, 0, 0, []⟩, none, 0, 0⟩]
def oneI : List Ins := [⟨3, 1, 0, 0, []⟩, ⟨1, 2, 0, 0, [(97, 97)]⟩, ⟨3, 3, 0, 1, []⟩, ⟨5, 0, 0, 0, []⟩]
theorem one_ins (r : Nat) : insL (oneL r) = oneI := rfl
def oneTr : Tr.Tr := .mk 2 [(97, 97)] 0 [] 0 0 false 0 ⟨#[]⟩
theorem one_tr (r : Nat) : (oneT r).tr = oneTr := by rw [oneT, Ta.tr, trs]; rfl
theorem one_cmp : cmpE oneTr = 0 := by decide +kernel
theorem one_prog : progL (simpleS oneTr) = oneI := by kernel_rfl
theorem one_caps : 2 + 2 * greatest oneTr = 2 := by decide +kernel
theorem one_chk : chkE ⟨oneI, 0, 2⟩ = 0 := by decide +kernel
theorem zero_chk : chkE ⟨[], 0, 0⟩ = 90 := by decide +kernel
theorem RdA.readsB {w : World} {size n c : Nat} {A : Option Addr} {xs : List Value} {B : Nat} {L : List Nat} (h : RdA w (Fr B L w) size A n c xs) : Reads w w.heap.size size A n c xs := h.reads fun b hb => hb.2.1
theorem readsP_of {w : World} {n c : Nat} {A : Option Addr} {L : List InV} {B : Nat} (h : RdA w (Fr B [] w) 5 A n c (insRow L)) (he : ∀ u ∈ L, RdA w (Fr B [] w) 2 u.A u.n u.c (flat u.I.rng)) : ReadsP w w.heap.size A n c L := ⟨h.readsB, fun u hu => ⟨(he u hu).readsB, (he u hu).2.2.2.1⟩⟩
set_option maxRecDepth 100000 in
set_option maxHeartbeats 2000000 in
theorem awake9_any (w : World) :
    Calls Try.prog 8 #[] w fun e w' => e = .returned (.bool true) ∧ Below w.heap.size w w' := by
  have hb1 : Below w.heap.size w (w.alloc (.cells #[.int .i64 97, .int .i64 97] 52)) := (Below.refl _ _).alloc (Nat.le_refl _) _
  have HR1 := Lib.hid (Blk.new w 52 [.int .i64 97, .int .i64 97])
  have hrt : RT (w.alloc (.cells #[.int .i64 97, .int .i64 97] 52)) (· < (w.alloc (.cells #[.int .i64 97, .int .i64 97] 52)).heap.size) (oneT w.heap.size) := by
    refine RT.of ⟨RdA.of_reads (HR1.out.reads (size := 2) (n := 1) (c := 1) (by omega) (by omega) (by simp)) (fun h => by cases h), by simp, by simp, by decide⟩ (RdA.none_) (by simp)
  have HC := Lib.hid (compile_any (oneT w.heap.size) (· < (w.alloc (.cells #[.int .i64 97, .int .i64 97] 52)).heap.size) (w.alloc (.cells #[.int .i64 97, .int .i64 97] 52)) hrt (fun b hb => hb))
  rw [one_tr] at HC
  have HB1 := Lib.hid hb1
  clear hb1 hrt
  simp only [oneT, Ta.val, Ta.vals, List.length_cons, List.length_nil, Nat.zero_add] at HC
  go_enter Try.func8, Try.ntmps8
  go_wp2_with fail
  refine HC.out.mono ?_
  rintro e w2 ⟨⟨A, n, c, L, caps, rfl, hln, hra, hel, hok⟩, hb2⟩
  obtain ⟨hI, hcp, -⟩ := hok one_cmp
  rw [one_caps] at hcp
  rw [one_prog] at hI
  rw [one_cmp]
  subst hcp
  have hn4 : n = 4 := by
    have := congrArg List.length hI
    rw [insL, List.length_map] at this
    rw [← hln, this]; rfl
  subst hn4
  have HP := Lib.hid (readsP_of hra hel)
  have HI := Lib.hid hI
  have HR2 := Lib.hid (HR1.out.below hb2 HR1.out.lt)
  have HB2 := Lib.hid (HB1.out.trans (hb2.mono HB1.out.size))
  clear hln hra hel hok hI hb2
  have hs1 : (w2.alloc (.cells #[.slice A 4 c, .int .i64 0, .int .i64 2] 30)).heap.size = w2.heap.size + 1 := by simp
  have hbw : Below w2.heap.size w2 (((w2.alloc (.cells #[.slice A 4 c, .int .i64 0, .int .i64 2] 30)).alloc (.cells #[.int .i64 3, .int .i64 1, .int .i64 0, .int .i64 0, .slice none 0 0, .int .i64 1, .int .i64 2, .int .i64 0, .int .i64 0, .slice (some ⟨w.heap.size, 0, none⟩) 1 1, .int .i64 3, .int .i64 3, .int .i64 0, .int .i64 1, .slice none 0 0, .int .i64 5, .int .i64 0, .int .i64 0, .int .i64 0, .slice none 0 0] 54)).alloc (.cells #[.slice (some ⟨w2.heap.size + 1, 0, none⟩) 4 4, .int .i64 0, .int .i64 2] 30)) := (((Below.refl _ _).alloc (Nat.le_refl _) _).alloc (by simp) _).alloc (by simp <;> omega) _
  have hIb : Blk (((w2.alloc (.cells #[.slice A 4 c, .int .i64 0, .int .i64 2] 30)).alloc (.cells #[.int .i64 3, .int .i64 1, .int .i64 0, .int .i64 0, .slice none 0 0, .int .i64 1, .int .i64 2, .int .i64 0, .int .i64 0, .slice (some ⟨w.heap.size, 0, none⟩) 1 1, .int .i64 3, .int .i64 3, .int .i64 0, .int .i64 1, .slice none 0 0, .int .i64 5, .int .i64 0, .int .i64 0, .int .i64 0, .slice none 0 0] 54)).alloc (.cells #[.slice (some ⟨w2.heap.size + 1, 0, none⟩) 4 4, .int .i64 0, .int .i64 2] 30)) (w2.heap.size + 1) 54 (insRow (oneL w.heap.size)) := by
    have := (Blk.new (w2.alloc (.cells #[.slice A 4 c, .int .i64 0, .int .i64 2] 30)) 54 (insRow (oneL w.heap.size))).alloc (.cells #[.slice (some ⟨w2.heap.size + 1, 0, none⟩) 4 4, .int .i64 0, .int .i64 2] 30)
    rw [hs1] at this
    exact this
  have hPb : Blk (((w2.alloc (.cells #[.slice A 4 c, .int .i64 0, .int .i64 2] 30)).alloc (.cells #[.int .i64 3, .int .i64 1, .int .i64 0, .int .i64 0, .slice none 0 0, .int .i64 1, .int .i64 2, .int .i64 0, .int .i64 0, .slice (some ⟨w.heap.size, 0, none⟩) 1 1, .int .i64 3, .int .i64 3, .int .i64 0, .int .i64 1, .slice none 0 0, .int .i64 5, .int .i64 0, .int .i64 0, .int .i64 0, .slice none 0 0] 54)).alloc (.cells #[.slice (some ⟨w2.heap.size + 1, 0, none⟩) 4 4, .int .i64 0, .int .i64 2] 30)) (w2.heap.size + 1 + 1) 30 [.slice (some ⟨w2.heap.size + 1, 0, none⟩) 4 4, .int .i64 0, .int .i64 2] := by
    have := Blk.new ((w2.alloc (.cells #[.slice A 4 c, .int .i64 0, .int .i64 2] 30)).alloc (.cells #[.int .i64 3, .int .i64 1, .int .i64 0, .int .i64 0, .slice none 0 0, .int .i64 1, .int .i64 2, .int .i64 0, .int .i64 0, .slice (some ⟨w.heap.size, 0, none⟩) 1 1, .int .i64 3, .int .i64 3, .int .i64 0, .int .i64 1, .slice none 0 0, .int .i64 5, .int .i64 0, .int .i64 0, .int .i64 0, .slice none 0 0] 54)) 30 [.slice (some ⟨w2.heap.size + 1, 0, none⟩) 4 4, .int .i64 0, .int .i64 2]
    rw [show ((w2.alloc (.cells #[.slice A 4 c, .int .i64 0, .int .i64 2] 30)).alloc (.cells #[.int .i64 3, .int .i64 1, .int .i64 0, .int .i64 0, .slice none 0 0, .int .i64 1, .int .i64 2, .int .i64 0, .int .i64 0, .slice (some ⟨w.heap.size, 0, none⟩) 1 1, .int .i64 3, .int .i64 3, .int .i64 0, .int .i64 1, .slice none 0 0, .int .i64 5, .int .i64 0, .int .i64 0, .int .i64 0, .slice none 0 0] 54)).heap.size = w2.heap.size + 1 + 1 from by simp] at this
    exact this
  have HRW := Lib.hid (HR2.out.below hbw HR2.out.lt)
  have HPW := Lib.hid (HP.out.below hbw)
  have HBW := Lib.hid (HB2.out.trans (hbw.mono HB2.out.size))
  have HPB := Lib.hid hPb
  have hri := hIb.reads (size := 5) (n := 4) (c := 4) (by omega) (by omega) (by simp [insRow_length, oneL])
  rw [List.take_of_length_le (by simp [insRow_length, oneL])] at hri
  have hrr := HRW.out.reads (size := 2) (n := 1) (c := 1) (by omega) (by omega) (by simp)
  have hwant : ReadsP (((w2.alloc (.cells #[.slice A 4 c, .int .i64 0, .int .i64 2] 30)).alloc (.cells #[.int .i64 3, .int .i64 1, .int .i64 0, .int .i64 0, .slice none 0 0, .int .i64 1, .int .i64 2, .int .i64 0, .int .i64 0, .slice (some ⟨w.heap.size, 0, none⟩) 1 1, .int .i64 3, .int .i64 3, .int .i64 0, .int .i64 1, .slice none 0 0, .int .i64 5, .int .i64 0, .int .i64 0, .int .i64 0, .slice none 0 0] 54)).alloc (.cells #[.slice (some ⟨w2.heap.size + 1, 0, none⟩) 4 4, .int .i64 0, .int .i64 2] 30)) (((w2.alloc (.cells #[.slice A 4 c, .int .i64 0, .int .i64 2] 30)).alloc (.cells #[.int .i64 3, .int .i64 1, .int .i64 0, .int .i64 0, .slice none 0 0, .int .i64 1, .int .i64 2, .int .i64 0, .int .i64 0, .slice (some ⟨w.heap.size, 0, none⟩) 1 1, .int .i64 3, .int .i64 3, .int .i64 0, .int .i64 1, .slice none 0 0, .int .i64 5, .int .i64 0, .int .i64 0, .int .i64 0, .slice none 0 0] 54)).alloc (.cells #[.slice (some ⟨w2.heap.size + 1, 0, none⟩) 4 4, .int .i64 0, .int .i64 2] 30)).heap.size (some ⟨w2.heap.size + 1, 0, none⟩) 4 4 (oneL w.heap.size) := by
    refine ⟨hri, fun v hv => ?_⟩
    simp only [oneL, List.mem_cons, List.not_mem_nil, or_false] at hv
    rcases hv with rfl | rfl | rfl | rfl
    · exact ⟨Reads.none_, fun _ => rfl⟩
    · exact ⟨hrr, fun h => by cases h⟩
    · exact ⟨Reads.none_, fun _ => rfl⟩
    · exact ⟨Reads.none_, fun _ => rfl⟩
  have HWT := Lib.hid hwant
  have hpw2 : ReadsP (((w2.alloc (.cells #[.slice A 4 c, .int .i64 0, .int .i64 2] 30)).alloc (.cells #[.int .i64 3, .int .i64 1, .int .i64 0, .int .i64 0, .slice none 0 0, .int .i64 1, .int .i64 2, .int .i64 0, .int .i64 0, .slice (some ⟨w.heap.size, 0, none⟩) 1 1, .int .i64 3, .int .i64 3, .int .i64 0, .int .i64 1, .slice none 0 0, .int .i64 5, .int .i64 0, .int .i64 0, .int .i64 0, .slice none 0 0] 54)).alloc (.cells #[.slice (some ⟨w2.heap.size + 1, 0, none⟩) 4 4, .int .i64 0, .int .i64 2] 30)) (((w2.alloc (.cells #[.slice A 4 c, .int .i64 0, .int .i64 2] 30)).alloc (.cells #[.int .i64 3, .int .i64 1, .int .i64 0, .int .i64 0, .slice none 0 0, .int .i64 1, .int .i64 2, .int .i64 0, .int .i64 0, .slice (some ⟨w.heap.size, 0, none⟩) 1 1, .int .i64 3, .int .i64 3, .int .i64 0, .int .i64 1, .slice none 0 0, .int .i64 5, .int .i64 0, .int .i64 0, .int .i64 0, .slice none 0 0] 54)).alloc (.cells #[.slice (some ⟨w2.heap.size + 1, 0, none⟩) 4 4, .int .i64 0, .int .i64 2] 30)).heap.size A 4 c L := HPW.out.more hbw.size
  have HSA := Lib.hid (sameP_any L (oneL w.heap.size) (by rw [HI.out, one_ins]) A (some ⟨w2.heap.size + 1, 0, none⟩) 4 c 4 0 2 (((w2.alloc (.cells #[.slice A 4 c, .int .i64 0, .int .i64 2] 30)).alloc (.cells #[.int .i64 3, .int .i64 1, .int .i64 0, .int .i64 0, .slice none 0 0, .int .i64 1, .int .i64 2, .int .i64 0, .int .i64 0, .slice (some ⟨w.heap.size, 0, none⟩) 1 1, .int .i64 3, .int .i64 3, .int .i64 0, .int .i64 1, .slice none 0 0, .int .i64 5, .int .i64 0, .int .i64 0, .int .i64 0, .slice none 0 0] 54)).alloc (.cells #[.slice (some ⟨w2.heap.size + 1, 0, none⟩) 4 4, .int .i64 0, .int .i64 2] 30)) hpw2 hwant)
  clear hs1 hbw hIb hPb hri hrr hwant hpw2
  simp only []
  go_wp2_with fail
  generalize (((w2.alloc (.cells #[.slice A 4 c, .int .i64 0, .int .i64 2] 30)).alloc (.cells #[.int .i64 3, .int .i64 1, .int .i64 0, .int .i64 0, .slice none 0 0, .int .i64 1, .int .i64 2, .int .i64 0, .int .i64 0, .slice (some ⟨w.heap.size, 0, none⟩) 1 1, .int .i64 3, .int .i64 3, .int .i64 0, .int .i64 1, .slice none 0 0, .int .i64 5, .int .i64 0, .int .i64 0, .int .i64 0, .slice none 0 0] 54)).alloc (.cells #[.slice (some ⟨w2.heap.size + 1, 0, none⟩) 4 4, .int .i64 0, .int .i64 2] 30)) = ww at *
  generalize hpb : w2.heap.size + 1 + 1 = pb at *
  refine HSA.out.mono ?_
  rintro e w3 ⟨rfl, hb3⟩
  have HB3 := Lib.hid (HBW.out.trans (hb3.mono HBW.out.size))
  have HPB3 := Lib.hid (HPB.out.below hb3 HPB.out.lt)
  have HW3 := Lib.hid ((HWT.out.below hb3).more hb3.size)
  have d0 : w3.cell? ⟨pb, 0, none⟩ = some (.slice (some ⟨w2.heap.size + 1, 0, none⟩) 4 4) := HPB3.out.cell 0
  have d1 : w3.cell? ⟨pb, 1, none⟩ = some (.int .i64 0) := HPB3.out.cell 1
  have d2 : w3.cell? ⟨pb, 2, none⟩ = some (.int .i64 2) := HPB3.out.cell 2
  have hck := check_any (some ⟨w2.heap.size + 1, 0, none⟩) 4 4 (oneL w.heap.size) 0 2 w3 HW3.out
  rw [one_ins, one_chk] at hck
  have HCK := Lib.hid hck
  clear hb3 hck HSA
  simp only []
  go_wp2_with fail
  refine HCK.out.mono ?_
  rintro e w4 ⟨rfl, hb4⟩
  have HB4 := Lib.hid (HB3.out.trans (hb4.mono HB3.out.size))
  have hcz := check_any none 0 0 [] 0 0 w4 ⟨Reads.none_, by simp⟩
  rw [show insL [] = [] from rfl, zero_chk] at hcz
  have HCZ := Lib.hid hcz
  clear hb4 hcz HCK d0 d1 d2
  simp only []
  go_wp2_with fail
  refine HCZ.out.mono ?_
  rintro e w5 ⟨rfl, hb5⟩
  have HB5 := Lib.hid (HB4.out.trans (hb5.mono HB4.out.size))
  clear hb5 HCZ
  simp only []
  go_wp2_with fail
  go_ret
  exact ⟨rfl, HB5.out⟩
end Go.Proofs.Ytfgelkfnbohmmaa
