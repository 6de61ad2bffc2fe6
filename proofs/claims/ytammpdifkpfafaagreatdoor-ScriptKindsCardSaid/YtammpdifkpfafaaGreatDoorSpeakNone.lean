/- The world's speak of a mobile that there is not. -/
import Derived.Test.YtammpdifkpfafaaGreatDoorKindsAll
namespace Go.Proofs.YtammpdifkpfafaaGreatDoor.News
open Go.RowKit Flat Go.Proofs.YtammpdifkpfafaaGreatDoorW.PrintLast
set_option linter.unusedSimpArgs false
set_option linter.unusedVariables false
set_option maxRecDepth 100000
set_option maxHeartbeats 1000000 in
theorem speak_none (p : Option Addr) (what tx a b kind key n : Int) (ha : 3 ≤ a) (w : World) : Calls Tryz.prog 50 #[.pointer p, .agg #[.int .i64 what, .int .i64 tx, .int .u8 a, .int .u8 b, .int .i64 kind, .int .u8 key, .int .i64 n]] w fun r w' => r = .returned (.int .i64 7) ∧ Below w.heap.size w w' := by
  go_enter Tryz.func50, Tryz.ntmps50
  go_wp2_with fail
  go_ret
  refine ⟨by rfl, ?_⟩
  repeat (first | (with_reducible exact Below.refl _ _) | (with_reducible assumption) | (with_reducible refine bw_alloc ?_) | (with_reducible refine bw_drew ?_) | (with_reducible refine bw_drewN ?_) | (with_reducible refine bw_set ?_ (by first | (simp; done) | (dsimp only; omega))) | (with_reducible refine bw_via (by assumption) ?_))
end Go.Proofs.YtammpdifkpfafaaGreatDoor.News
