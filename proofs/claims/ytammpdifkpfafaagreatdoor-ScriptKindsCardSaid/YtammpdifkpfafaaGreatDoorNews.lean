/- What chair.New, site.New and ring.New make. -/
import Derived.Test.YtammpdifkpfafaaGreatDoorFlat
import Derived.Test.YtammpdifkpfafaaGreatDoorMapV
namespace Go.Proofs.YtammpdifkpfafaaGreatDoor.News
open Go.RowKit Flat
set_option linter.unusedSimpArgs false
set_option linter.unusedVariables false
set_option maxRecDepth 100000

/-- A chair at block g: its deals in the map of block bm, its log a slice. -/
def ChairPost (w : World) (r : Ending) (w' : World) : Prop :=
  ∃ g bm, r = .returned (.pointer (some ⟨g, 0, none⟩)) ∧ w.heap.size ≤ bm ∧ bm < g ∧ g < w'.heap.size ∧ w'.cell? ⟨g, 0, none⟩ = some (.map (some bm)) ∧ w'.cell? ⟨g, 1, none⟩ = some (.slice none 0 0) ∧ (∀ o, w'.frozen? ⟨g, o, none⟩ = false) ∧ MapV.Own Tryz.prog .i64 3 w' bm MapV.none_ 0 ∧ Below w.heap.size w w'
set_option maxHeartbeats 1000000 in
theorem chair_new (w : World) : Calls Tryz.prog 26 #[] w (ChairPost w) := by
  have hmm := @run_makeMap Tryz.prog
  go_enter Tryz.func26, Tryz.ntmps26
  go_wp2_with fail
  go_ret
  refine ⟨w.heap.size + 1, w.heap.size, rfl, Nat.le_refl _, by omega, by simp, by simp [go_sem], by simp [go_sem], fun o => ?_, ?_, ?_⟩
  · exact World.frozen?_alloc_at _ _ _ _ (by simp)
  · exact (MapV.own_made (P := Tryz.prog) (q := .i64) (kt := 3) w).below ((Below.refl _ _).alloc (Nat.le_refl _) _) (by simp)
  · exact ((Below.refl _ _).alloc (Nat.le_refl _) _).alloc (by simp) _
/-- A ring at block g, of so much room, with nothing in it. -/
def RingPost (w : World) (room : Int) (r : Ending) (w' : World) : Prop :=
  ∃ t, r = .returned (.pointer (some ⟨w.heap.size, 0, none⟩)) ∧ w' = w.alloc (.cells #[.slice none 0 0, .int .i64 room] t)
set_option maxHeartbeats 1000000 in
theorem ring_new (room : Int) (h1 : 1 ≤ room) (h2 : room ≤ 10000) (w : World) : Calls Tryz.prog 45 #[.int .i64 room] w (RingPost w room) := by
  have hI1 : ¬ room < 1 := by omega
  have hI2 : ¬ (10000 : Int) < room := by omega
  go_enter Tryz.func45, Tryz.ntmps45
  go_wp2_with fail
  go_ret
  exact ⟨_, rfl, rfl⟩
end Go.Proofs.YtammpdifkpfafaaGreatDoor.News
