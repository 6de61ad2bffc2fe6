/- Same values; signed numbers as unsigned ones and back. -/
import Derived.Test.YtpacapcloggbkaaDoorCodeLaw
namespace Go.Proofs.YtpacapcloggbkaaDoor.CodeMem
open Go.RowKit CodeSpec Flat
set_option linter.unusedSimpArgs false
set_option linter.unusedVariables false

set_option maxHeartbeats 1000000 in
theorem same_any (u v : Value) (vs : List V) (w : World) (hu : IsVals w u vs) (hv : IsVals w v vs) :
    Calls Tryd.prog 17 #[u, v] w fun e w' => e = .returned (.bool true) ∧ Below w.heap.size w w' := by
  obtain ⟨a, cap, rfl, hmax, hall, hcells⟩ := hu
  obtain ⟨a2, cap2, rfl, _, _, hcells2⟩ := hv
  have hm := hmax
  unfold maxLen at hm
  go_enter Tryd.func17, Tryd.ntmps17
  go_wp2
  go_loopw [5] (fun i wr => ∃ k : Nat, k ≤ vs.length ∧ i = .int .i64 k ∧ Below w.heap.size w wr) (fun i _ => vs.length - (intOf i).toNat)
  case atStart => exact ⟨0, Nat.zero_le _, rfl, Below.refl _ _⟩
  case round =>
    obtain ⟨wo, h_wo⟩ : ∃ v : World, v = wr := ⟨_, rfl⟩; subst h_wo
    obtain ⟨k, hk, rfl, hB⟩ := hrel
    by_cases hkl : k < vs.length
    · obtain ⟨b0, off, hab, hbw, hcs⟩ := hcells (by omega)
      obtain ⟨b1, off1, hab1, hbw1, hcs1⟩ := hcells2 (by omega)
      subst hab hab1
      obtain ⟨d0, d1⟩ := hcs k hkl
      obtain ⟨e0, e1⟩ := hcs1 k hkl
      rw [← hB.cell (p := ⟨b0, _, none⟩) hbw] at d0 d1
      rw [← hB.cell (p := ⟨b1, _, none⟩) hbw1] at e0 e1
      have hkI : (k : Int) < (vs.length : Int) := by omega
      clear hcs hcells hall hcs1 hcells2
      generalize vs[k] = x at *
      obtain ⟨n, t⟩ := x
      simp only at d0 d1 e0 e1
      go_wp2
      go_quiet (fail)
      go_wp2
      go_roundw
      case rel => exact ⟨k + 1, by omega, by go_num, ⟨hB.os, hB.tape, hB.output, hB.size, hB.block⟩⟩
      case measure => simp [intOf]; omega
    · have hkI : ¬ (k : Int) < (vs.length : Int) := by omega
      go_wp2
      go_ret
      exact ⟨rfl, hB⟩

theorem xor_lo {y : Nat} (h : y < 2 ^ 63) : y ^^^ 2 ^ 63 = y + 2 ^ 63 := by
  apply Nat.eq_of_testBit_eq
  intro i
  rw [Nat.testBit_xor, Nat.testBit_two_pow, Nat.add_comm]
  by_cases h1 : i < 63
  · rw [Nat.testBit_two_pow_add_gt h1, decide_eq_false (by omega), Bool.xor_false]
  · by_cases h2 : i = 63
    · subst h2
      rw [Nat.testBit_two_pow_add_eq, Nat.testBit_lt_two_pow h]; simp
    · rw [Nat.testBit_lt_two_pow (Nat.lt_of_lt_of_le h (Nat.pow_le_pow_right (by decide) (by omega))), decide_eq_false (by omega)]
      have : 2 ^ 63 + y < 2 ^ i := Nat.lt_of_lt_of_le (show 2 ^ 63 + y < 2 ^ 64 by omega) (Nat.pow_le_pow_right (by decide) (by omega))
      rw [Nat.testBit_lt_two_pow this]; rfl
theorem xor_any {y : Nat} (h : y < 2 ^ 64) : y ^^^ 2 ^ 63 = (y + 2 ^ 63) % 2 ^ 64 := by
  by_cases h1 : y < 2 ^ 63
  · rw [xor_lo h1, Nat.mod_eq_of_lt (by omega)]
  · obtain ⟨z, rfl⟩ : ∃ z, y = z + 2 ^ 63 := ⟨y - 2 ^ 63, by omega⟩
    rw [← xor_lo (y := z) (by omega), Nat.xor_assoc, Nat.xor_self, Nat.xor_zero, xor_lo (by omega)]
    omega

theorem wrapU (n : Int) : IntKind.u64.wrap n = n % 18446744073709551616 := by simp [IntKind.wrap, IntKind.bits, IntKind.signed]
theorem u64_xor (x : Int) (h0 : 0 ≤ x) (h1 : x < 18446744073709551616) : bits .xor .u64 x 9223372036854775808 = (x + 9223372036854775808) % 18446744073709551616 := by
  obtain ⟨y, rfl⟩ := Int.eq_ofNat_of_zero_le h0
  have h : bits .xor .u64 (y : Int) ((2 ^ 63 : Nat) : Int) = ((y ^^^ 2 ^ 63 : Nat) : Int) := by
    have ha' : y % 2 ^ 64 = y := Nat.mod_eq_of_lt (by omega)
    have hb' : 2 ^ 63 % 2 ^ 64 = 2 ^ 63 := by decide
    have hx : y ^^^ 2 ^ 63 < 2 ^ 64 := Nat.xor_lt_two_pow (by omega) (by decide)
    simp only [bits, BitVec.ofInt_natCast, BitVec.toNat_xor, BitVec.toNat_ofNat, show IntKind.bits .u64 = 64 from rfl, ha', hb']
    exact wraps_u64 _ (Int.natCast_nonneg _) (by exact_mod_cast hx)
  have e : ((2 ^ 63 : Nat) : Int) = 9223372036854775808 := rfl
  rw [e] at h
  rw [h, xor_any (by omega)]
  omega
theorem ret_int {k : IntKind} {a b : Int} (h : a = b) : Ending.returned (.int k a) = .returned (.int k b) := by rw [h]
/-- A signed number as one that is not. -/
def sgn (n : Int) : Int := n + 9223372036854775808

set_option maxHeartbeats 1000000 in
theorem sign_any (n : Int) (w : World) (h1 : -9223372036854775808 ≤ n) (h2 : n ≤ 9223372036854775807) :
    Calls Tryd.prog 19 #[.int .i64 n] w fun e w' => e = .returned (.int .u64 (sgn n)) ∧ w = w' := by
  go_enter Tryd.func19, Tryd.ntmps19
  go_wp2
  go_ret
  refine ⟨ret_int ?_, rfl⟩
  rw [wrapU, u64_xor _ (by omega) (by omega)]
  unfold sgn
  omega
set_option maxHeartbeats 1000000 in
theorem rsign_any (n : Int) (w : World) (h1 : -9223372036854775808 ≤ n) (h2 : n ≤ 9223372036854775807) :
    Calls Tryd.prog 20 #[.int .i64 n] w fun e w' => e = .returned (.int .u64 (sgn n)) ∧ w = w' := by
  go_enter Tryd.func20, Tryd.ntmps20
  go_wp2
  go_ret
  refine ⟨ret_int ?_, rfl⟩
  rw [wrapU, wrapU]
  unfold sgn
  omega
set_option maxHeartbeats 1000000 in
theorem unsign_any (n : Int) (w : World) (h1 : 0 ≤ n) (h2 : n ≤ 18446744073709551615) :
    Calls Tryd.prog 21 #[.int .u64 n] w fun e w' => e = .returned (.int .i64 (n - 9223372036854775808)) ∧ w = w' := by
  go_enter Tryd.func21, Tryd.ntmps21
  go_wp2
  go_ret
  refine ⟨ret_int ?_, rfl⟩
  rw [u64_xor _ (by omega) (by omega)]
  unfold wrap64
  omega
set_option maxHeartbeats 1000000 in
theorem runsign_any (n : Int) (w : World) (h1 : 0 ≤ n) (h2 : n ≤ 18446744073709551615) :
    Calls Tryd.prog 22 #[.int .u64 n] w fun e w' => e = .returned (.int .i64 (n - 9223372036854775808)) ∧ w = w' := by
  go_enter Tryd.func22, Tryd.ntmps22
  go_wp2
  go_ret
  refine ⟨ret_int ?_, rfl⟩
  rw [wrapU]
  unfold wrap64
  omega
end Go.Proofs.YtpacapcloggbkaaDoor.CodeMem
