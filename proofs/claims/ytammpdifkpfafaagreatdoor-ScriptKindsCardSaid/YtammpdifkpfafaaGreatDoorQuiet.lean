/- A quiet kind's call: nothing is read. -/
import Derived.Test.YtammpdifkpfafaaGreatDoorSpeakNone
import Derived.Shelf.Abstract
import Derived.Lib.Hide
namespace Go.Proofs.YtammpdifkpfafaaGreatDoor.News
open Go.RowKit Flat Go.Proofs.YtammpdifkpfafaaGreatDoorW.PrintLast
set_option linter.unusedSimpArgs false
set_option linter.unusedVariables false
set_option maxRecDepth 100000
set_option maxHeartbeats 1000000 in
theorem quiet_speak (p : Option Addr) (bx : Nat) (what tx a b kind key n : Int) (ha : 3 ≤ a) (w : World) (hbx : w.cell? ⟨bx, 0, none⟩ = some (.func (.func (kdF 3)) #[] #[])) :
    Calls Tryz.prog 66 #[.pointer p, .agg #[.int .i64 what, .int .i64 tx, .int .u8 a, .int .u8 b, .int .i64 kind, .int .u8 key, .int .i64 n], .pointer (some ⟨bx, 0, none⟩)] w fun r w' => r = .returned (.tuple #[.int .i64 0, .int .i64 7]) ∧ Below w.heap.size w w' := by
  have HE := Go.Proofs.enters_of Tryz.func50 (by kernel_rfl) rfl
  have HS := Lib.hid (fun W => speak_none p what tx a b kind key n ha W)
  simp only [kdF] at hbx
  have hlt : bx < w.heap.size := Flat.cell_lt hbx
  go_enter Tryz.func66, Tryz.ntmps66
  go_wp2_with fail
  refine (HS.out _).mono ?_
  rintro r v ⟨rfl, hb⟩
  have HB := Lib.hid hb
  clear hb HE
  go_wp2_with fail
  simp [bodyPost, results, Tryz.results66, go_sem]
  have hb := HB.out
  have hb' := hb.mono (show w.heap.size ≤ _ by simp)
  exact ((Below.refl _ w).alloc (Nat.le_refl _) _).trans hb'
end Go.Proofs.YtammpdifkpfafaaGreatDoor.News
