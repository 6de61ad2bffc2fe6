/- site.New; whether a world is good, and its time. -/
import Derived.Test.YtammpdifkpfafaaGreatDoorAirNew
namespace Go.Proofs.YtammpdifkpfafaaGreatDoor.News
open Go.RowKit Flat Go.Proofs.YtammpdifkpfafaaGreatDoorW.PrintLast
set_option linter.unusedSimpArgs false
set_option linter.unusedVariables false
set_option maxRecDepth 100000

/-- A site at block g: its parts in the map of block bm. -/
def SitePost (w : World) (r : Ending) (w' : World) : Prop :=
  ∃ g bm, r = .returned (.pointer (some ⟨g, 0, none⟩)) ∧ w.heap.size ≤ bm ∧ bm < g ∧ g < w'.heap.size ∧ w'.cell? ⟨g, 0, none⟩ = some (.slice none 0 0) ∧ w'.cell? ⟨g, 1, none⟩ = some (.slice none 0 0) ∧ w'.cell? ⟨g, 2, none⟩ = some (.map (some bm)) ∧ w'.cell? ⟨g, 3, none⟩ = some (.slice none 0 0) ∧ (∀ o, w'.frozen? ⟨g, o, none⟩ = false) ∧ MapV.Own Tryz.prog .i64 3 w' bm MapV.none_ 0 ∧ Below w.heap.size w w'
set_option maxHeartbeats 1000000 in
theorem site_new (w : World) : Calls Tryz.prog 27 #[] w (SitePost w) := by
  have hmm := @run_makeMap Tryz.prog
  go_enter Tryz.func27, Tryz.ntmps27
  go_wp2_with fail
  go_ret
  refine ⟨w.heap.size + 1, w.heap.size, rfl, Nat.le_refl _, by omega, by simp, by simp [go_sem], by simp [go_sem], by simp [go_sem], by simp [go_sem], fun o => ?_, ?_, ?_⟩
  · exact World.frozen?_alloc_at _ _ _ _ (by simp)
  · exact (MapV.own_made (P := Tryz.prog) (q := .i64) (kt := 3) w).below ((Below.refl _ _).alloc (Nat.le_refl _) _) (by simp)
  · exact ((Below.refl _ _).alloc (Nat.le_refl _) _).alloc (by simp) _
/-- A world at block g is good: its chair is one. -/
theorem world_good (g gc : Nat) (w : World) (h : w.cell? ⟨g, 1, none⟩ = some (.pointer (some ⟨gc, 0, none⟩))) : Calls Tryz.prog 28 #[.pointer (some ⟨g, 0, none⟩)] w fun r w' => r = .returned (.bool true) ∧ w' = w := by
  go_enter Tryz.func28, Tryz.ntmps28
  go_wp2_with fail
  go_ret
  exact ⟨rfl, rfl⟩
theorem world_now (g gc : Nat) (t : Int) (w : World) (h : w.cell? ⟨g, 1, none⟩ = some (.pointer (some ⟨gc, 0, none⟩))) (ht : w.cell? ⟨g, 62, none⟩ = some (.int .i64 t)) : Calls Tryz.prog 19 #[.pointer (some ⟨g, 0, none⟩)] w fun r w' => r = .returned (.int .i64 t) ∧ w' = w := by
  have HG := Lib.hid (world_good g gc w h)
  go_enter Tryz.func19, Tryz.ntmps19
  go_wp2_with fail
  refine HG.out.mono ?_
  rintro r w2 ⟨rfl, rfl⟩
  go_wp2_with fail
  go_ret
  exact ⟨rfl, rfl⟩
end Go.Proofs.YtammpdifkpfafaaGreatDoor.News
