/- Any signed number as one that is not, and any other one as a signed one, is the document's; they undo each other, and rise together: for all numbers the statement's call returns true. -/
import Derived.Test.YtpacapcloggbkaaDoorCodeAlive
import Derived.OpenShut
namespace Go.Proofs.YtpacapcloggbkaaDoor.LCodeSigns
open Go.RowKit CodeSpec Flat CodeMem
set_option linter.unusedSimpArgs false
set_option linter.unusedVariables false

set_option maxRecDepth 100000 in
set_option maxHeartbeats 2000000 in
theorem walk (a0 : Int) (a1 : Int) (a2 : Int) (w : World) (w0 : (Lit.int .i64 a0).wf = true) (w1 : (Lit.int .i64 a1).wf = true) (w2 : (Lit.int .u64 a2).wf = true) :
    Calls Tryd.prog 5 #[.int .i64 a0, .int .i64 a1, .int .u64 a2] w fun e w' => e = .returned (.bool true) ∧ Below w.heap.size w w' := by
  obtain ⟨l0, u0⟩ := bounds_i64 w0
  obtain ⟨l1, u1⟩ := bounds_i64 w1
  obtain ⟨l2, u2⟩ := bounds_u64 w2
  have SA := fun w => sign_any a0 w l0 u0
  have RA := fun w => rsign_any a0 w l0 u0
  have UN := fun w => unsign_any a2 w l2 u2
  have RN := fun w => runsign_any a2 w l2 u2
  have US := fun w => unsign_any (sgn a0) w (by unfold sgn; omega) (by unfold sgn; omega)
  have SU := fun w => sign_any (a2 - 9223372036854775808) w (by omega) (by omega)
  have SB := fun w => sign_any a1 w l1 u1
  have e1 : sgn a0 - 9223372036854775808 = a0 := by unfold sgn; omega
  have e2 : sgn (a2 - 9223372036854775808) = a2 := by unfold sgn; omega
  rw [e1] at US
  rw [e2] at SU
  clear e1 e2
  go_enter Tryd.func5, Tryd.ntmps5
  go_wp2_with fail
  refine (alive_any _).mono ?_
  rintro e v1 ⟨rfl, hb1⟩
  go_wp2_with fail
  refine (SA _).mono ?_
  rintro e w' ⟨rfl, rfl⟩
  go_wp2_with fail
  refine (RA _).mono ?_
  rintro e w' ⟨rfl, rfl⟩
  go_wp2_with fail
  refine (UN _).mono ?_
  rintro e w' ⟨rfl, rfl⟩
  go_wp2_with fail
  refine (RN _).mono ?_
  rintro e w' ⟨rfl, rfl⟩
  go_wp2_with fail
  refine (SA _).mono ?_
  rintro e w' ⟨rfl, rfl⟩
  go_wp2_with fail
  refine (US _).mono ?_
  rintro e w' ⟨rfl, rfl⟩
  go_wp2_with fail
  refine (UN _).mono ?_
  rintro e w' ⟨rfl, rfl⟩
  go_wp2_with fail
  refine (SU _).mono ?_
  rintro e w' ⟨rfl, rfl⟩
  go_wp2_with fail
  refine (SA _).mono ?_
  rintro e w' ⟨rfl, rfl⟩
  go_wp2_with fail
  refine (SB _).mono ?_
  rintro e w' ⟨rfl, rfl⟩
  go_wp2_with fail
  go_ret
  refine ⟨?_, hb1⟩
  have : (a0 < a1) ↔ (sgn a0 < sgn a1) := by unfold sgn; omega
  simp [this]
end Go.Proofs.YtpacapcloggbkaaDoor.LCodeSigns
