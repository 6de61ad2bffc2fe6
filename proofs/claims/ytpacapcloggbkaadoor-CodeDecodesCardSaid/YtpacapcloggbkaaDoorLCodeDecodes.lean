/- The values of any shape that any bytes tell are the document's, or refused: for every shape and all bytes the statement's call returns true. -/
import Derived.Test.YtpacapcloggbkaaDoorCodeUse
namespace Go.Proofs.YtpacapcloggbkaaDoor.LCodeDecodes
open Go.RowKit CodeSpec Flat CodeMem
set_option linter.unusedSimpArgs false
set_option linter.unusedVariables false

set_option maxRecDepth 100000 in
set_option maxHeartbeats 2000000 in
theorem walk (a0 : ByteArray) (a1 : Option Addr) (len1 cap1 : Nat) (r1 : List (List Value)) (w : World) (w0 : a0.size ≤ maxLen) (w1 : IsRows [.int .u8] w a1 len1 cap1 r1) :
    Calls Tryd.prog 4 #[.string a0, .slice a1 len1 cap1] w fun e w' => e = .returned (.bool true) ∧ Below w.heap.size w w' := by
  obtain ⟨l, rfl, hlc, hcm, hib⟩ := rows_bytes w1
  have hs := w0
  have hcm' := hcm
  unfold maxLen at hs hcm'
  clear w1
  by_cases h110 : 110 < a0.size
  · have hI : (110 : Int) < (a0.size : Int) := by omega
    go_enter Tryd.func4, Tryd.ntmps4
    go_wp2_with fail
    refine (alive_any _).mono ?_
    rintro e v1 ⟨rfl, hb1⟩
    go_wp2_with fail
    go_ret
    exact ⟨rfl, hb1⟩
  · have hI : ¬ (110 : Int) < (a0.size : Int) := by omega
    by_cases h5 : 5000 < l.length
    · have hI5 : (5000 : Int) < (l.length : Int) := by omega
      go_enter Tryd.func4, Tryd.ntmps4
      go_wp2_with fail
      refine (alive_any _).mono ?_
      rintro e v1 ⟨rfl, hb1⟩
      go_wp2_with fail
      go_ret
      exact ⟨rfl, hb1⟩
    · have hI5 : ¬ (5000 : Int) < (l.length : Int) := by omega
      go_enter Tryd.func4, Tryd.ntmps4
      go_wp2_with fail
      refine (alive_any _).mono ?_
      rintro e v1 ⟨rfl, hb1⟩
      have hi1 := isB_up hib hb1
      go_wp2_with fail
      refine (decode_use a0 a1 l cap1 v1 w0 hi1 hlc hcm).mono ?_
      have HR := fun w hw => rdecode_use a0 a1 l cap1 w w0 hw hlc hcm
      generalize dec a0.data.toList l = T at *
      obtain ⟨vs, er⟩ := T
      rintro e v2 ⟨u, rfl, hu, hl2, hb2⟩
      have hB2 : Below w.heap.size w v2 := hb1.trans (hb2.mono hb1.size)
      go_wp2_with fail
      refine (HR v2 (isB_up hi1 hb2)).mono ?_
      rintro e v3 ⟨u', rfl, hu', _, hb3⟩
      have hB3 : Below w.heap.size w v3 := hB2.trans (hb3.mono hB2.size)
      dsimp only at hu hu' hl2
      have hu3 := vals_below hu hb3
      clear hu hb3 hb2 HR hi1 hib
      go_wp2_with fail
      refine (ours_use u vs v3 hu3 (by omega)).mono ?_
      rintro e v4 ⟨u4, rfl, hu4, hb4⟩
      have hB4 : Below w.heap.size w v4 := hB3.trans (hb4.mono hB3.size)
      go_wp2_with fail
      refine (same_any u4 u' vs v4 hu4 (vals_below hu' hb4)).mono ?_
      rintro e v5 ⟨rfl, hb5⟩
      have hB5 : Below w.heap.size w v5 := hB4.trans (hb5.mono hB4.size)
      go_wp2_with fail
      go_ret
      exact ⟨by simp, hB5⟩
end Go.Proofs.YtpacapcloggbkaaDoor.LCodeDecodes
