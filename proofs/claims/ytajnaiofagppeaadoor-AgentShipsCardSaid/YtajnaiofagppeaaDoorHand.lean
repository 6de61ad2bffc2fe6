/- What package hand's functions, and the reference's, answer: which sides and messages there may be. -/
import Derived.Test.YtajnaiofagppeaaDoorLease
import Derived.Test.YtajnaiofagppeaaDoorHandSpec
import Derived.RegionTactic
namespace Go.Proofs.YtajnaiofagppeaaDoor.Hand
open Go.RowKit LeaseSpec Flat Lease HandSpec
set_option linter.unusedSimpArgs false
set_option linter.unusedVariables false

set_option maxHeartbeats 4000000 in
theorem right_hand (x : S) (w : World) (hc : x.c.size ≤ maxLen) : Calls Tryd.prog 23 #[.agg #[.int .u8 x.me, .int .i64 x.e, .int .i64 x.s, .int .u8 x.t, .string x.c, .bool x.k]] w fun r w' => r = .returned (.bool (rightS x)) ∧ Below w.heap.size w w' := by
  unfold maxLen at hc
  go_enter Tryd.func23, Tryd.ntmps23
  go_wp2_with fail
  go_quiet (fail)
  go_wp2_with (go_at_call 46; refine (right_any _ _ _ _).mono ?_; rintro e w' ⟨rfl, hb⟩; obtain ⟨c_hb, f_hb, z_hb⟩ := bcell hb; have z0_hb := z_hb (w.heap.size) (by first | omega | (simp only [World.size_alloc, World.size_setCell, World.size_drew, World.heap_drewN] <;> omega)); clear z_hb)
  all_goals (go_ret; refine ⟨congrArg (fun b => Ending.returned (.bool b)) ?_, ?_⟩; rotate_left; repeat (first | (with_reducible exact Below.refl _ _) | (with_reducible assumption) | (with_reducible refine bw_alloc ?_) | (with_reducible refine bw_drew ?_) | (with_reducible refine bw_drewN ?_) | (with_reducible refine bw_set ?_ (by first | (simp; done) | (dsimp only; omega))) | (with_reducible refine bw_via (by assumption) ?_)))
  all_goals (simp only [rightS, none_]; (repeat' split) <;> first | omega | (simp_all; done) | (simp_all; omega))

set_option maxHeartbeats 4000000 in
theorem right_hand_ref (x : S) (w : World) (hc : x.c.size ≤ maxLen) : Calls Tryd.prog 42 #[.agg #[.int .u8 x.me, .int .i64 x.e, .int .i64 x.s, .int .u8 x.t, .string x.c, .bool x.k]] w fun r w' => r = .returned (.bool (rightS x)) ∧ Below w.heap.size w w' := by
  unfold maxLen at hc
  go_enter Tryd.func42, Tryd.ntmps42
  go_wp2_with fail
  go_wp2_with (go_at_call 72; refine (right_ref _ _ _ _).mono ?_; rintro e w' ⟨rfl, hb⟩; obtain ⟨c_hb, f_hb, z_hb⟩ := bcell hb; have z0_hb := z_hb (w.heap.size) (by first | omega | (simp only [World.size_alloc, World.size_setCell, World.size_drew, World.heap_drewN] <;> omega)); clear z_hb)
  all_goals (go_ret; refine ⟨congrArg (fun b => Ending.returned (.bool b)) ?_, ?_⟩; rotate_left; repeat (first | (with_reducible exact Below.refl _ _) | (with_reducible assumption) | (with_reducible refine bw_alloc ?_) | (with_reducible refine bw_drew ?_) | (with_reducible refine bw_drewN ?_) | (with_reducible refine bw_set ?_ (by first | (simp; done) | (dsimp only; omega))) | (with_reducible refine bw_via (by assumption) ?_)))
  all_goals (simp only [rightS, none_]; (repeat' split) <;> first | omega | (simp_all; done) | (simp_all; omega))

set_option maxHeartbeats 4000000 in
theorem may_any (m : M) (w : World) (hc : m.c.size ≤ maxLen) : Calls Tryd.prog 48 #[.agg #[.int .i64 m.kind, .int .u8 m.src, .int .u8 m.dst, .int .i64 m.ep, .string m.c]] w fun r w' => r = .returned (.bool (mayM m)) ∧ Below w.heap.size w w' := by
  unfold maxLen at hc
  go_enter Tryd.func48, Tryd.ntmps48
  go_wp2_with fail
  all_goals (go_ret; refine ⟨congrArg (fun b => Ending.returned (.bool b)) ?_, ?_⟩; rotate_left; repeat (first | (with_reducible exact Below.refl _ _) | (with_reducible assumption) | (with_reducible refine bw_alloc ?_) | (with_reducible refine bw_drew ?_) | (with_reducible refine bw_drewN ?_) | (with_reducible refine bw_set ?_ (by first | (simp; done) | (dsimp only; omega))) | (with_reducible refine bw_via (by assumption) ?_)))
  all_goals (simp only [mayM, none_]; (repeat' split) <;> first | omega | (simp_all; done) | (simp_all; omega))

end Go.Proofs.YtajnaiofagppeaaDoor.Hand
