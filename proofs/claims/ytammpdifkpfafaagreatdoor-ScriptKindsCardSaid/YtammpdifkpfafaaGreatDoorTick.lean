/- chair.tick where there are no deals: it ranges over nothing. -/
import Derived.Test.YtammpdifkpfafaaGreatDoorNews
import Derived.Maps.RangeWalk
import Derived.LoopTactic
import Derived.Deep.LoopGhost
import Derived.Deep.DeepCutAuto
import Derived.Lib.Hide
namespace Go.Proofs.YtammpdifkpfafaaGreatDoor.News
open Go.RowKit Go.Maps Flat
set_option linter.unusedSimpArgs false
set_option linter.unusedVariables false
set_option maxRecDepth 100000

theorem below_grown {v w : World} (h : v.grownBy w none) : Below v.heap.size v w := ⟨h.os, h.tape, h.output, h.size, fun i hi => h.block i hi (by simp)⟩
set_option maxHeartbeats 1000000 in
theorem tick_empty (g bm : Nat) (now : Int) (w : World) (hg : w.cell? ⟨g, 0, none⟩ = some (.map (some bm))) (ho : MapV.Own Tryz.prog .i64 3 w bm MapV.none_ 0) :
    Calls Tryz.prog 116 #[.pointer (some ⟨g, 0, none⟩), .int .i64 now] w fun r w' => r = .returned (.int .i64 0) ∧ Below w.heap.size w w' := by
  obtain ⟨D, hown, hsz, _⟩ := ho
  go_enter Tryz.func116, Tryz.ntmps116
  go_wp2_with (first
    | (at_range; refine wpList_range_own _ rfl _ 103 rfl 3 102 (int_keyed Tryz.underlying3) Tryz.underlying103 MapV.RV bm 0 D (by rfl) hown ?_; intro w0 hrg0 hg0 hs0)
    | go_in)
  go_frame
  go_loopw [5] (fun n wr => n = .int .i64 0 ∧ (∃ left cnt, cnt = 0 ∧ wr.ranges Tryz.prog 3 MapV.RV bm w.heap.size 0 D left cnt) ∧ w.grownBy wr none) (fun _ wr => wr.rangeLeft bm w.heap.size)
  case atStart => exact ⟨rfl, ⟨_, _, hsz, hrg0⟩, hg0⟩
  case round =>
    obtain ⟨rfl, ⟨left, cnt, hc0, hrg⟩, hgw⟩ := hrel
    have HC0 := Lib.hid hc0
    clear hc0
    go_wp2_with (first
      | (at_next; refine wpList_next_ranges _ rfl _ rfl 3 (int_keyed Tryz.underlying3) MapV.RV id id (fun key _ _ => ⟨key, rfl⟩) (fun v _ _ => ⟨v, rfl⟩) bm w.heap.size 0 _ _ _ rfl hrg ?_ ?_)
      | go_in)
    · intro _ hl0
      go_wp2_with fail
      go_ret
      exact ⟨rfl, below_grown hgw⟩
    · intro x c kl yd w1 cnt1 _ _ _ _ _ hlt
      have := HC0.out
      omega
end Go.Proofs.YtammpdifkpfafaaGreatDoor.News
