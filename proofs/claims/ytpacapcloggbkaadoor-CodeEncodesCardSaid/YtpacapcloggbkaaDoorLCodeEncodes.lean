/- The bytes of any values of any shape are the document's, or refused: for every shape and all values the statement's call returns true. -/
import Derived.Test.YtpacapcloggbkaaDoorCodeUse
namespace Go.Proofs.YtpacapcloggbkaaDoor.LCodeEncodes
open Go.RowKit CodeSpec Flat CodeMem
set_option linter.unusedSimpArgs false
set_option linter.unusedVariables false

set_option maxRecDepth 100000 in
set_option maxHeartbeats 2000000 in
theorem walk (a0 : ByteArray) (a1 : Option Addr) (len1 cap1 : Nat) (r1 : List (List Value)) (w : World) (w0 : a0.size ≤ maxLen) (w1 : IsRows [.int .u64, .str] w a1 len1 cap1 r1) :
    Calls Tryd.prog 3 #[.string a0, .slice a1 len1 cap1] w fun e w' => e = .returned (.bool true) ∧ Below w.heap.size w w' := by
  obtain ⟨vs, hvl, hv⟩ := rows_vals w1
  have hs := w0
  unfold maxLen at hs
  clear hvl w1
  generalize Value.slice a1 len1 cap1 = V at *
  by_cases h110 : 110 < a0.size
  · have hI : (110 : Int) < (a0.size : Int) := by omega
    go_enter Tryd.func3, Tryd.ntmps3
    go_wp2_with fail
    refine (alive_any _).mono ?_
    rintro e v1 ⟨rfl, hb1⟩
    go_wp2_with fail
    go_ret
    exact ⟨rfl, hb1⟩
  · have hI : ¬ (110 : Int) < (a0.size : Int) := by omega
    go_enter Tryd.func3, Tryd.ntmps3
    go_wp2_with fail
    refine (alive_any _).mono ?_
    rintro e v1 ⟨rfl, hb1⟩
    have hv1 := vals_below hv hb1
    go_wp2_with fail
    refine (few_any V vs v1 hv1).mono ?_
    rintro e v2 ⟨b, rfl, hfew, hb2⟩
    have hB2 : Below w.heap.size w v2 := hb1.trans (hb2.mono hb1.size)
    have hv2 := vals_below hv1 hb2
    clear hv1 hb1 hb2
    cases b with
    | false =>
      clear hfew
      go_wp2_with fail
      go_ret
      exact ⟨rfl, hB2⟩
    | true =>
      have hl := hfew rfl
      clear hfew
      go_wp2_with fail
      refine (theirs_use V vs v2 hv2 (by omega)).mono ?_
      rintro e v3 ⟨u, rfl, hu, hb3⟩
      have hB3 : Below w.heap.size w v3 := hB2.trans (hb3.mono hB2.size)
      have hv3 := vals_below hv2 hb3
      clear hv2 hb3 hB2
      go_wp2_with fail
      refine (encode_use a0 u vs v3 w0 hu).mono ?_
      have HR := fun w hw => rencode_use a0 V vs w w0 hw
      generalize enc a0.data.toList vs = T at *
      obtain ⟨out, er⟩ := T
      rintro e v4 ⟨ac, capc, rfl, hc1, hc2, hi4, hb4⟩
      dsimp only at hc1 hc2 hi4
      have hB4 : Below w.heap.size w v4 := hB3.trans (hb4.mono hB3.size)
      have hv4 := vals_below hv3 hb4
      clear hv3 hb4 hB3
      go_wp2_with fail
      refine (HR v4 hv4).mono ?_
      clear HR
      rintro e v5 ⟨ad, capd, rfl, hd1, hd2, hi5, hb5⟩
      dsimp only at hd1 hd2 hi5
      have hB5 : Below w.heap.size w v5 := hB4.trans (hb5.mono hB4.size)
      have kc1 := conv_bytes capc (isB_up hi4 hb5) 9 Tryd.underlying9
      have kc2 := conv_bytes capd hi5 9 Tryd.underlying9
      clear hi4 hi5 hv hv4
      go_wp2_with fail
      go_ret
      exact ⟨by simp, hB5⟩
end Go.Proofs.YtpacapcloggbkaaDoor.LCodeEncodes
