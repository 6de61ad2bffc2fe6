/- The ballots of a side that holds an agency. -/
import Derived.Test.YtajnaiofagppeaaDoorUnpack
import Derived.Test.YtajnaiofagppeaaDoorHand
namespace Go.Proofs.YtajnaiofagppeaaDoor.Held
open Go Go.RowKit Go.Shelf CodeSpec AgentSpec Flat CodeMem Ballot Collect Pack HandSpec Go.Proofs.YtajnaiofagppeaaDoorW.PrintLast
set_option linter.unusedSimpArgs false
set_option linter.unusedVariables false
set_option maxRecDepth 100000
def heldL (x : S) : List Ba × Int := if x.s ≠ 1 then ([], 7) else unpackL x.c.data.toList
set_option maxHeartbeats 1000000 in
theorem held_any (x : S) (hc : x.c.size ≤ maxLen) (w : World) : Calls Tryd.prog 38 #[.agg #[.int .u8 x.me, .int .i64 x.e, .int .i64 x.s, .int .u8 x.t, .string x.c, .bool x.k]] w (UnpackPost (heldL x) w) := by
  obtain ⟨me, e, s, t, c, k⟩ := x
  dsimp only at hc ⊢
  by_cases h : s = 1
  · have hT : heldL ⟨me, e, s, t, c, k⟩ = unpackL c.data.toList := by rw [heldL, if_neg (fun q => q h)]
    rw [hT]
    clear hT
    subst h
    go_enter Tryd.func38, Tryd.ntmps38
    go_wp2_with fail
    refine (unpack_any c hc _).mono ?_
    rintro r w1 ⟨v, rfl, ho, hb⟩
    go_wp2_with fail
    go_ret2
    exact ⟨_, rfl, own_mono ho (by simp), by repeat (first | (with_reducible exact Below.refl _ _) | (with_reducible assumption) | (with_reducible refine bw_alloc ?_) | (with_reducible refine bw_drew ?_) | (with_reducible refine bw_drewN ?_) | (with_reducible refine bw_set ?_ (by first | (simp; done) | (dsimp only; omega))) | (with_reducible refine bw_via (by assumption) ?_))⟩
  · have hT : heldL ⟨me, e, s, t, c, k⟩ = ([], 7) := by rw [heldL, if_pos h]
    rw [hT]
    clear hT
    go_enter Tryd.func38, Tryd.ntmps38
    go_wp2_with fail
    go_ret2
    exact ⟨_, rfl, ownl_nil _ _, by repeat (first | (with_reducible exact Below.refl _ _) | (with_reducible assumption) | (with_reducible refine bw_alloc ?_) | (with_reducible refine bw_drew ?_) | (with_reducible refine bw_drewN ?_) | (with_reducible refine bw_set ?_ (by first | (simp; done) | (dsimp only; omega))) | (with_reducible refine bw_via (by assumption) ?_))⟩
end Go.Proofs.YtajnaiofagppeaaDoor.Held
