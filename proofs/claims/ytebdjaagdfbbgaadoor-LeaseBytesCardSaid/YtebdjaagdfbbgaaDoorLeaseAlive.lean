/- The answers that the document fixes: 'alive' says true. -/
import Derived.Test.YtebdjaagdfbbgaaDoorLease
namespace Go.Proofs.YtebdjaagdfbbgaaDoor.LeaseAlive
open Go.RowKit LeaseSpec Flat Lease
set_option linter.unusedSimpArgs false
set_option linter.unusedVariables false

set_option maxHeartbeats 1000000 in
theorem alive_any (w : World) : Calls Tryd.prog 4 #[] w fun r w' => r = .returned (.bool true) ∧ Below w.heap.size w w' := by
  have t1 : take 0 0 0 3 = (⟨3, 1, 0⟩, 0) := by decide
  have t2 : give 3 1 0 5 = (⟨3, 2, 5⟩, 0) := by decide
  have t3 : take 3 2 5 3 = (⟨3, 2, 5⟩, 10) := by decide
  have s1 : speaksB 3 1 0 3 = true := by decide
  have s2 : speaksB 3 2 5 3 = false := by decide
  have r1 : rightB 3 2 5 = true := by decide
  go_enter Tryd.func4, Tryd.ntmps4
  go_wp2_with fail
  refine (take_any 0 0 0 3 _).mono ?_
  rw [t1]
  rintro e w1 ⟨rfl, hb1⟩
  obtain ⟨c_hb1, f_hb1, z_hb1⟩ := bcell hb1; clear z_hb1
  go_wp2_with fail
  refine (give_any 3 1 0 5 _).mono ?_
  rw [t2]
  rintro e w2 ⟨rfl, hb2⟩
  obtain ⟨c_hb2, f_hb2, z_hb2⟩ := bcell hb2; have z0_hb2 := z_hb2 (w1.heap.size) (by first | omega | (simp only [World.size_alloc, World.size_setCell, World.size_drew, World.heap_drewN] <;> omega)); clear z_hb2
  go_wp2_with fail
  refine (take_any 3 2 5 3 _).mono ?_
  rw [t3]
  rintro e w3 ⟨rfl, hb3⟩
  obtain ⟨c_hb3, f_hb3, z_hb3⟩ := bcell hb3; have z0_hb3 := z_hb3 (w1.heap.size) (by first | omega | (simp only [World.size_alloc, World.size_setCell, World.size_drew, World.heap_drewN] <;> omega)); have z1_hb3 := z_hb3 (w2.heap.size) (by first | omega | (simp only [World.size_alloc, World.size_setCell, World.size_drew, World.heap_drewN] <;> omega)); clear z_hb3
  go_wp2_with fail
  refine (speaks_any 3 1 0 3 _).mono ?_
  rw [s1]
  rintro e w4 ⟨rfl, hb4⟩
  obtain ⟨c_hb4, f_hb4, z_hb4⟩ := bcell hb4; have z0_hb4 := z_hb4 (w1.heap.size) (by first | omega | (simp only [World.size_alloc, World.size_setCell, World.size_drew, World.heap_drewN] <;> omega)); have z1_hb4 := z_hb4 (w2.heap.size) (by first | omega | (simp only [World.size_alloc, World.size_setCell, World.size_drew, World.heap_drewN] <;> omega)); clear z_hb4
  go_wp2_with fail
  refine (speaks_any 3 2 5 3 _).mono ?_
  rw [s2]
  rintro e w5 ⟨rfl, hb5⟩
  obtain ⟨c_hb5, f_hb5, z_hb5⟩ := bcell hb5; have z0_hb5 := z_hb5 (w1.heap.size) (by first | omega | (simp only [World.size_alloc, World.size_setCell, World.size_drew, World.heap_drewN] <;> omega)); have z1_hb5 := z_hb5 (w2.heap.size) (by first | omega | (simp only [World.size_alloc, World.size_setCell, World.size_drew, World.heap_drewN] <;> omega)); clear z_hb5
  go_wp2_with fail
  refine (right_any 3 2 5 _).mono ?_
  rw [r1]
  rintro e w6 ⟨rfl, hb6⟩
  go_wp2_with fail
  go_ret
  refine ⟨rfl, ?_⟩
  repeat (first | (with_reducible exact Below.refl _ _) | (with_reducible assumption) | (with_reducible refine bw_alloc ?_) | (with_reducible refine bw_drew ?_) | (with_reducible refine bw_drewN ?_) | (with_reducible refine bw_set ?_ (by first | (simp; done) | (dsimp only; omega))) | (with_reducible refine bw_via (by assumption) ?_))
end Go.Proofs.YtebdjaagdfbbgaaDoor.LeaseAlive
