/- What quiet makes of a function; what the world's speak answers of a mobile that there is not. -/
import Derived.Test.YtammpdifkpfafaaGreatDoorWorldSmall
import Derived.Laws.Alloc2
import Derived.Laws.EntriesVeiled
namespace Go.Proofs.YtammpdifkpfafaaGreatDoor.News
open Go.RowKit Flat Go.Proofs.YtammpdifkpfafaaGreatDoorW.PrintLast
set_option linter.unusedSimpArgs false
set_option linter.unusedVariables false
set_option maxRecDepth 100000

/-- A quiet kind: its function's value lies in a block of its own. -/
def QuietPost (w : World) (k : Nat) (r : Ending) (w' : World) : Prop :=
  ∃ b, r = .returned (.agg #[.func (.func 66) #[] #[.pointer (some ⟨b, 0, none⟩)]]) ∧ w.heap.size ≤ b ∧ b < w'.heap.size ∧ w'.cell? ⟨b, 0, none⟩ = some (.func (.func k) #[] #[]) ∧ Below w.heap.size w w'
set_option maxHeartbeats 1000000 in
theorem quiet_any (k : Nat) (w : World) : Calls Tryz.prog 46 #[.func (.func k) #[] #[]] w (QuietPost w k) := by
  go_enter Tryz.func46, Tryz.ntmps46
  go_wp2_with fail
  simp [bodyPost, results, Tryz.results46, go_sem, *]
  refine ⟨w.heap.size, rfl, Nat.le_refl _, by simp; omega, by simp [go_sem], ?_⟩
  repeat (first | (with_reducible exact Below.refl _ _) | (with_reducible assumption) | (with_reducible refine bw_alloc ?_) | (with_reducible refine bw_drew ?_) | (with_reducible refine bw_drewN ?_) | (with_reducible refine bw_set ?_ (by first | (simp; done) | (dsimp only; omega))) | (with_reducible refine bw_via (by assumption) ?_))
end Go.Proofs.YtammpdifkpfafaaGreatDoor.News
