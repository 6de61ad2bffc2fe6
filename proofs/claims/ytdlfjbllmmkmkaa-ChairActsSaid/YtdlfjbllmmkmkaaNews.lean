/- What chair.New, site.New and ring.New make. -/
import Derived.Test.YtdlfjbllmmkmkaaFlat
import Derived.Test.YtdlfjbllmmkmkaaMapV
namespace Go.Proofs.Ytdlfjbllmmkmkaa.News
open Go.RowKit Flat
set_option linter.unusedSimpArgs false
set_option linter.unusedVariables false
set_option maxRecDepth 100000

/-- A chair at block g: its deals in the map of block bm, its log a slice. -/
def ChairPost (w : World) (r : Ending) (w' : World) : Prop :=
  ∃ g bm, r = .returned (.pointer (some ⟨g, 0, none⟩)) ∧ w.heap.size ≤ bm ∧ bm < g ∧ g < w'.heap.size ∧ w'.cell? ⟨g, 0, none⟩ = some (.map (some bm)) ∧ w'.cell? ⟨g, 1, none⟩ = some (.slice none 0 0) ∧ (∀ o, w'.frozen? ⟨g, o, none⟩ = false) ∧ MapV.Own Try.prog .i64 3 w' bm MapV.none_ 0 ∧ Below w.heap.size w w'
set_option maxHeartbeats 1000000 in
theorem chair_new (w : World) : Calls Try.prog 11 #[] w (ChairPost w) := by
  have hmm := @run_makeMap Try.prog
  go_enter Try.func11, Try.ntmps11
  go_wp2_with fail
  go_ret
  refine ⟨w.heap.size + 1, w.heap.size, rfl, Nat.le_refl _, by omega, by simp, by simp [go_sem], by simp [go_sem], fun o => ?_, ?_, ?_⟩
  · exact World.frozen?_alloc_at _ _ _ _ (by simp)
  · exact (MapV.own_made (P := Try.prog) (q := .i64) (kt := 3) w).below ((Below.refl _ _).alloc (Nat.le_refl _) _) (by simp)
  · exact ((Below.refl _ _).alloc (Nat.le_refl _) _).alloc (by simp) _
end Go.Proofs.Ytdlfjbllmmkmkaa.News
