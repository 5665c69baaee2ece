/- simplify.reckon, of every tree that may be; simplify.Size's and Simplify's reckoning. -/
import Derived.Test.YtfgelkfnbohmmaaP28
namespace Go.Proofs.Ytfgelkfnbohmmaa
open Go.RowKit Go.Proofs.Ytfgelkfnbohmmaa.Tr
theorem fb1_reckon {t : Tr.Tr} (h : allB t = true) : FB1 (reckonS t) := by
  rw [reckon_form t h]
  have h1 := size_pos (simpleS t)
  have h2 := deep_pos (simpleS t)
  have h3 := (simple_good t h).1
  generalize simpleS t = u at *
  have hq : u.kind = 4 → 2 ≤ u.subs.length := fun hk => by
    cases kinds h3 with
    | cat l hc hs => exact hc
    | empty => exact absurd hk (by decide)
    | cls r hr => exact absurd (show (_ : Int) = 4 from hk) (by change ¬ (_ : Int) = 4; simp [Tr.kind, altT, repT, groupT])
    | ass a ha => exact absurd (show (_ : Int) = 4 from hk) (by change ¬ (_ : Int) = 4; simp [Tr.kind, altT, repT, groupT])
    | alt l hc hs => exact absurd (show (_ : Int) = 4 from hk) (by change ¬ (_ : Int) = 4; simp [Tr.kind, altT, repT, groupT])
    | rep x n m z hx h0 hb hm => exact absurd (show (_ : Int) = 4 from hk) (by change ¬ (_ : Int) = 4; simp [Tr.kind, altT, repT, groupT])
    | group x i s hx h0 hb hm => exact absurd (show (_ : Int) = 4 from hk) (by change ¬ (_ : Int) = 4; simp [Tr.kind, altT, repT, groupT])
  simp only [FB1, FB, capF, cN, cD]
  by_cases hk : u.kind = 4
  · have := hq hk
    simp only [if_pos hk]
    omega
  · simp only [if_neg hk]
    omega
theorem reckon_any : ∀ t : Ta, allB t.tr = true → RK t := by
  intro t
  induction t using Ta.ind with
  | h t ih =>
    cases t with
    | mk k r ra rc ast l sa sc mn mx z ix nm =>
    intro h S w hr hS
    have hs : ∀ u ∈ l, allB u.tr = true := fun u hu => ((allB_iff _).1 h).2 u.tr (by rw [Ta.tr_subs]; exact List.mem_map_of_mem hu)
    have hih : ∀ u ∈ l, RK u := fun u hu => ih u hu (hs u hu)
    have hF : ∀ u ∈ l, FB1 (reckonS u.tr) := fun u hu => fb1_reckon (hs u hu)
    have hm : reckonsS (trs l) = l.map fun u => reckonS u.tr := by rw [reckonsS_map, trs_map, List.map_map]; rfl
    have hlen := trs_length l
    simp only [Ta.tr, reckonS, hm]
    simp only [Ta.tr] at h
    clear hm ih hs
    generalize trs l = L at h hlen
    cases kinds h with
    | empty => exact reck_leaf _ _ _ _ _ _ _ _ _ _ _ _ _ S w hr hS rfl rfl rfl rfl
    | cls r hr' => exact reck_leaf _ _ _ _ _ _ _ _ _ _ _ _ _ S w hr hS rfl rfl rfl rfl
    | ass a ha => exact reck_leaf _ _ _ _ _ _ _ _ _ _ _ _ _ S w hr hS rfl rfl rfl rfl
    | cat L h2 hs => exact reck_cat _ _ _ _ _ _ _ _ _ _ _ _ _ S w hr hS rfl rfl hih hF
    | alt L h2 hs => exact reck_alt _ _ _ _ _ _ _ _ _ _ _ _ _ S w hr hS rfl rfl rfl hih hF
    | rep x n m z hx h0 h1 hm => exact reck_rep _ _ _ _ _ _ _ _ _ _ _ _ _ S w hr hS rfl rfl rfl rfl (by simpa using hlen.symm) h0 h1 (by omega) hih hF
    | group x i s hx h0 h1 hm => exact reck_group _ _ _ _ _ _ _ _ _ _ _ _ _ S w hr hS rfl (by simpa using hlen.symm) hih hF
end Go.Proofs.Ytfgelkfnbohmmaa
