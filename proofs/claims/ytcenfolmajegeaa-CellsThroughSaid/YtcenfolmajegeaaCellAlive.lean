/- 'alive' of the statements on cells returns true. -/
import Derived.Test.YtcenfolmajegeaaCells
namespace Go.Proofs.Ytcenfolmajegeaa.CellAlive
open Go.RowKit Go.Maps CellMap Cells
set_option linter.unusedSimpArgs false
set_option linter.unusedVariables false

theorem bel {B : Nat} {w0 w w' : World} {k : Nat} (h : Below B w0 w) (hg : w.grownBy w' (some k)) (hB : B ≤ w.heap.size) (hk : B ≤ k) : Below B w0 w' := h.grown hg hB (fun j hj => by cases hj; exact hk)

set_option maxRecDepth 100000 in
set_option maxHeartbeats 3200000 in
theorem alive_any (w : World) : Calls Try.prog 9 #[] w fun r w' => r = .returned (.bool true) ∧ Below w.heap.size w w' := by
  go_enter Try.func9, Try.ntmps9
  go_wp2_with (go_at_call 10; refine (new_any 2 _ (by omega) (by omega)).mono ?_; rintro e w1 ⟨g, bn, bs, rfl, hb, hB, hg, hn, hs⟩)
  refine (set_fits (k := 3) (v := 5) _ hb rfl rfl (Or.inr (by decide))).mono ?_
  rintro e w2 ⟨rfl, hb2, hg2⟩
  have B2 := bel hB hg2 hB.size hn
  clear hB hg2 hb
  go_wp2_with fail
  refine (sync_any _ hb2).mono ?_
  rintro e w3 ⟨rfl, hb3, hg3⟩
  have B3 := bel B2 hg3 B2.size hg
  have hs3 := B2.size
  clear B2 hg3 hb2
  generalize w2.heap.size = bs3 at hb3 hs3
  go_wp2_with fail
  refine (set_fits (k := 3) (v := 6) _ hb3 rfl rfl (Or.inl (by decide))).mono ?_
  rintro e w4 ⟨rfl, hb4, hg4⟩
  have B4 := bel B3 hg4 B3.size hn
  clear B3 hg4 hb3
  go_wp2_with fail
  refine (set_fits (k := 1) (v := 1) _ hb4 rfl rfl (Or.inr (by decide))).mono ?_
  rintro e w5 ⟨rfl, hb5, hg5⟩
  have B5 := bel B4 hg5 B4.size hn
  clear B4 hg5 hb4
  go_wp2_with fail
  refine (set_full (k := 2) (v := 2) _ hb5 rfl (by decide) (by decide)).mono ?_
  rintro e w6 ⟨rfl, hb6, hg6⟩
  have B6 := bel B5 hg6 B5.size hn
  clear B5 hg6 hb5
  go_wp2_with fail
  refine (crash_any _ hb6).mono ?_
  rintro e w7 ⟨rfl, hb7, hg7⟩
  have B7 := bel B6 hg7 B6.size hg
  clear B6 hg7 hb6
  generalize w6.heap.size = bn7 at hb7
  have HG := get_any (k := 3) _ hb7 rfl
  have e3 : CellMap.set none_ 3 5 3 = some 5 := rfl
  rw [e3] at HG
  simp only [Option.isSome_some, if_true, Option.getD_some] at HG
  have HL := len_any _ hb7
  have el : setC none_ 0 3 = 1 := rfl
  rw [el] at HL
  go_wp2_with (first | (go_at_call 12; refine HG.mono ?_; rintro e w' ⟨rfl, rfl⟩) | (go_at_call 16; refine HL.mono ?_; rintro e w' ⟨rfl, rfl⟩))
  go_ret
  exact ⟨rfl, B7⟩
end Go.Proofs.Ytcenfolmajegeaa.CellAlive
