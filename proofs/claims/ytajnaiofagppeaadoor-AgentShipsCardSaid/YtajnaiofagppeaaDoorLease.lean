/- What package lease's functions, and the reference's, answer. -/
import Derived.Test.YtajnaiofagppeaaDoorProg
import Derived.Test.YtajnaiofagppeaaDoorLeaseSpec
import Derived.Test.YtajnaiofagppeaaDoorFlat
import Derived.WalkKit
import Derived.WalkSpells
import Derived.WalkLawsBesides
import Derived.BigQuiet
import Derived.Deep.QuietTactic
import Derived.RowKit3
import Derived.Below
import Derived.Outline
namespace Go.Proofs.YtajnaiofagppeaaDoor.Lease
open Go.RowKit LeaseSpec Flat
set_option linter.unusedSimpArgs false
set_option linter.unusedVariables false

theorem epoch_any (n : Int) (w : World) : Calls Tryd.prog 73 #[.int .i64 n] w fun e w' => e = .returned (.bool (epochB n)) ∧ w = w' := by
  go_enter Tryd.func73, Tryd.ntmps73
  go_wp2
  all_goals (go_ret; refine ⟨?_, rfl⟩)
  all_goals (simp [epochB]; omega)

set_option maxHeartbeats 400000 in
theorem right_any (e s t : Int) (w : World) : Calls Tryd.prog 46 #[.agg #[.int .i64 e, .int .i64 s, .int .u8 t]] w fun r w' => r = .returned (.bool (rightB e s t)) ∧ Below w.heap.size w w' := by
  go_enter Tryd.func46, Tryd.ntmps46
  go_wp2_with (go_at_call 73; refine (epoch_any _ _).mono ?_; rintro e w' ⟨rfl, rfl⟩)
  all_goals (go_ret; refine ⟨?_, (Below.refl _ _).alloc (Nat.le_refl _) _⟩)
  all_goals (simp_all [rightB])

set_option maxHeartbeats 400000 in
theorem speaks_any (e s t n : Int) (w : World) : Calls Tryd.prog 77 #[.agg #[.int .i64 e, .int .i64 s, .int .u8 t], .int .i64 n] w fun r w' => r = .returned (.bool (speaksB e s t n)) ∧ Below w.heap.size w w' := by
  go_enter Tryd.func77, Tryd.ntmps77
  go_wp2_with (go_at_call 46; refine (right_any _ _ _ _).mono ?_; rintro e w' ⟨rfl, hb⟩; obtain ⟨c_hb, f_hb, z_hb⟩ := bcell hb; have z0_hb := z_hb (w.heap.size) (by first | omega | (simp only [World.size_alloc, World.size_setCell, World.size_drew, World.heap_drewN] <;> omega)); clear z_hb)
  all_goals (go_ret; refine ⟨?_, ?_⟩)
  all_goals (first | (simp_all [speaksB]; done) | repeat (first | (with_reducible exact Below.refl _ _) | (with_reducible assumption) | (with_reducible refine bw_alloc ?_) | (with_reducible refine bw_drew ?_) | (with_reducible refine bw_drewN ?_) | (with_reducible refine bw_set ?_ (by first | (simp; done) | (dsimp only; omega))) | (with_reducible refine bw_via (by assumption) ?_)))

set_option maxHeartbeats 400000 in
theorem take_any (e s t n : Int) (w : World) : Calls Tryd.prog 79 #[.agg #[.int .i64 e, .int .i64 s, .int .u8 t], .int .i64 n] w fun r w' =>
    r = .returned (.tuple #[.agg #[.int .i64 (take e s t n).1.e, .int .i64 (take e s t n).1.s, .int .u8 (take e s t n).1.t], .int .i64 (take e s t n).2]) ∧ Below w.heap.size w w' := by
  go_enter Tryd.func79, Tryd.ntmps79
  go_wp2_with (first | (go_at_call 46; refine (right_any _ _ _ _).mono ?_; rintro e w' ⟨rfl, hb⟩; obtain ⟨c_hb, f_hb, z_hb⟩ := bcell hb; have z0_hb := z_hb (w.heap.size) (by first | omega | (simp only [World.size_alloc, World.size_setCell, World.size_drew, World.heap_drewN] <;> omega)); have z1_hb := z_hb (w.heap.size + 1) (by first | omega | (simp only [World.size_alloc, World.size_setCell, World.size_drew, World.heap_drewN] <;> omega)); clear z_hb) | (go_at_call 73; refine (epoch_any _ _).mono ?_; rintro e w' ⟨rfl, rfl⟩) | (go_at_call 77; refine (speaks_any _ _ _ _ _).mono ?_; rintro e w' ⟨rfl, hb2⟩; obtain ⟨c_hb2, f_hb2, z_hb2⟩ := bcell hb2; have z0_hb2 := z_hb2 (w.heap.size) (by first | omega | (simp only [World.size_alloc, World.size_setCell, World.size_drew, World.heap_drewN] <;> omega)); have z1_hb2 := z_hb2 (w.heap.size + 1) (by first | omega | (simp only [World.size_alloc, World.size_setCell, World.size_drew, World.heap_drewN] <;> omega)); clear z_hb2))
  all_goals (simp [bodyPost, results, Tryd.results79, go_sem, *])
  all_goals (refine ⟨?_, ?_⟩; rotate_left; repeat (first | (with_reducible exact Below.refl _ _) | (with_reducible assumption) | (with_reducible refine bw_alloc ?_) | (with_reducible refine bw_drew ?_) | (with_reducible refine bw_drewN ?_) | (with_reducible refine bw_set ?_ (by first | (simp; done) | (dsimp only; omega))) | (with_reducible refine bw_via (by assumption) ?_)))
  all_goals (first | (simp_all [take]; done) | (simp_all [take]; omega) | (simp_all [take]; split <;> first | omega | simp_all) | (simp_all [take]; intros; omega))

set_option maxHeartbeats 400000 in
theorem give_any (e s t n : Int) (w : World) : Calls Tryd.prog 78 #[.agg #[.int .i64 e, .int .i64 s, .int .u8 t], .int .u8 n] w fun r w' =>
    r = .returned (.tuple #[.agg #[.int .i64 (give e s t n).1.e, .int .i64 (give e s t n).1.s, .int .u8 (give e s t n).1.t], .int .i64 (give e s t n).2]) ∧ Below w.heap.size w w' := by
  go_enter Tryd.func78, Tryd.ntmps78
  go_wp2_with (go_at_call 46; refine (right_any _ _ _ _).mono ?_; rintro e w' ⟨rfl, hb⟩; obtain ⟨c_hb, f_hb, z_hb⟩ := bcell hb; have z0_hb := z_hb (w.heap.size) (by first | omega | (simp only [World.size_alloc, World.size_setCell, World.size_drew, World.heap_drewN] <;> omega)); have z1_hb := z_hb (w.heap.size + 1) (by first | omega | (simp only [World.size_alloc, World.size_setCell, World.size_drew, World.heap_drewN] <;> omega)); clear z_hb)
  all_goals (simp [bodyPost, results, Tryd.results78, go_sem, *])
  all_goals (refine ⟨?_, ?_⟩; rotate_left; repeat (first | (with_reducible exact Below.refl _ _) | (with_reducible assumption) | (with_reducible refine bw_alloc ?_) | (with_reducible refine bw_drew ?_) | (with_reducible refine bw_drewN ?_) | (with_reducible refine bw_set ?_ (by first | (simp; done) | (dsimp only; omega))) | (with_reducible refine bw_via (by assumption) ?_)))
  all_goals (first | (simp_all [give]; done) | (simp_all [give]; omega) | (simp_all [give]; split <;> first | omega | simp_all) | (simp_all [give]; intros; omega))

set_option maxHeartbeats 400000 in
theorem right_ref (e s t : Int) (w : World) : Calls Tryd.prog 72 #[.agg #[.int .i64 e, .int .i64 s, .int .u8 t]] w fun r w' => r = .returned (.bool (rightB e s t)) ∧ Below w.heap.size w w' := by
  go_enter Tryd.func72, Tryd.ntmps72
  go_wp2
  all_goals (go_ret; refine ⟨?_, (Below.refl _ _).alloc (Nat.le_refl _) _⟩)
  all_goals (first | (simp_all [rightB, epochB]; done) | (simp_all [rightB, epochB]; omega) | (simp_all [rightB, epochB]; split <;> first | omega | simp_all) | (simp_all [rightB, epochB]; intros; omega))



end Go.Proofs.YtajnaiofagppeaaDoor.Lease
