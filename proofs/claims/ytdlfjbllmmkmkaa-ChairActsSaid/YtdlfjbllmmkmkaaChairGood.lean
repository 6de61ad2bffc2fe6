/- Whether a chair is good. -/
import Derived.Test.YtdlfjbllmmkmkaaNews
import Derived.Laws.Cover3
import Derived.OwnWalk
namespace Go.Proofs.Ytdlfjbllmmkmkaa.News
open Go.RowKit Flat
set_option linter.unusedSimpArgs false
set_option linter.unusedVariables false
set_option maxRecDepth 100000
theorem chair_good (g bm : Nat) (w : World) (hg : w.cell? ⟨g, 0, none⟩ = some (.map (some bm))) : Calls Try.prog 23 #[.pointer (some ⟨g, 0, none⟩)] w fun r w' => r = .returned (.bool true) ∧ w' = w := by
  have hnm := fun w => run_neq_map_nil (P := Try.prog) w 52 3 44 (some bm) Try.underlying52
  go_enter Try.func23, Try.ntmps23
  go_wp2_with fail
  go_ret
  exact ⟨rfl, rfl⟩
theorem infoRec : (Try.prog.info? 33).map (fun i => (i.zero, i.size, i.bytes)) = some (some (.agg #[.int .i64 0, .int .i64 0, .int .u8 0, .int .i64 0, .int .i64 0, .int .i64 0, .int .i64 0, .int .i64 0]), 8, 64) := by kernel_rfl
end Go.Proofs.Ytdlfjbllmmkmkaa.News
