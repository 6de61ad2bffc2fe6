/- Numbers of one letter rise as their bytes do, and what has no room is refused: for all numbers and every letter the statement's call returns true. -/
import Derived.Test.YtpacapcloggbkaaDoorCodeUse
namespace Go.Proofs.YtpacapcloggbkaaDoor.LCodeRising
open Go.RowKit CodeSpec Flat CodeMem
set_option linter.unusedSimpArgs false
set_option linter.unusedVariables false

theorem less_be : ∀ w a b, a < 256 ^ w → b < 256 ^ w → Op.bytesLess (be w a) (be w b) = decide (a < b)
  | 0, a, b, ha, hb => by
    simp at ha hb
    subst ha hb
    rfl
  | w + 1, a, b, ha, hb => by
    have hp : 0 < 256 ^ w := Nat.pow_pos (by decide)
    have h1 : a / 256 ^ w < 256 := Nat.div_lt_of_lt_mul (by rw [Nat.pow_succ] at ha; omega)
    have h2 : b / 256 ^ w < 256 := Nat.div_lt_of_lt_mul (by rw [Nat.pow_succ] at hb; omega)
    have ih := less_be w (a % 256 ^ w) (b % 256 ^ w) (Nat.mod_lt _ hp) (Nat.mod_lt _ hp)
    rw [be_mod w a w (Nat.le_refl _), be_mod w b w (Nat.le_refl _)] at ih
    rw [be, be, Op.bytesLess, ih]
    have e1 : (UInt8.ofNat (a / 256 ^ w)).toNat = a / 256 ^ w := by rw [UInt8.toNat_ofNat']; exact Nat.mod_eq_of_lt (by simpa using h1)
    have e2 : (UInt8.ofNat (b / 256 ^ w)).toNat = b / 256 ^ w := by rw [UInt8.toNat_ofNat']; exact Nat.mod_eq_of_lt (by simpa using h2)
    have d1 := Nat.div_add_mod a (256 ^ w)
    have d2 := Nat.div_add_mod b (256 ^ w)
    have m1 := Nat.mod_lt a hp
    have m2 := Nat.mod_lt b hp
    rw [Bool.eq_iff_iff]
    simp only [Bool.or_eq_true, decide_eq_true_eq, Bool.and_eq_true, beq_iff_eq, UInt8.lt_iff_toNat_lt, ← UInt8.toNat_inj, e1, e2]
    generalize a / 256 ^ w = x at *
    generalize b / 256 ^ w = y at *
    generalize a % 256 ^ w = x' at *
    generalize b % 256 ^ w = y' at *
    generalize 256 ^ w = p at *
    constructor
    · rintro (h | ⟨rfl, h⟩)
      · have : p * (x + 1) ≤ p * y := Nat.mul_le_mul_left _ h
        rw [Nat.mul_add] at this
        omega
      · omega
    · intro h
      rcases Nat.lt_trichotomy x y with hxy | hxy | hxy
      · exact .inl hxy
      · subst hxy; exact .inr ⟨rfl, by omega⟩
      · have : p * (y + 1) ≤ p * x := Nat.mul_le_mul_left _ hxy
        rw [Nat.mul_add] at this
        omega
theorem enc_one {c : UInt8} (hc : letter c = true) (h6 : c ≠ 116) (n : Nat) : enc [c] [⟨n, ⟨#[]⟩⟩] = if n < 256 ^ wd c then (be (wd c) n, 0) else ([], 2) := by
  have hw8 := (wd_letter hc h6).2
  have hsh : shapeB [c] = true := by simp [shapeB, hc]
  have h1 : encL [c] [⟨n, ⟨#[]⟩⟩] = if fits c ⟨n, ⟨#[]⟩⟩ = true then some (be (wd c) n) else none := by
    rw [encL, encL, one, if_neg h6]
    simp
  by_cases h : n < 256 ^ wd c
  · rw [if_pos (fits_lt h6 rfl h)] at h1
    rw [enc_some hsh h1, if_neg (by rw [length_be]; omega), if_pos h]
  · have hf := fits_ge h6 rfl h
    rw [hf, if_neg (by simp)] at h1
    rw [enc_none hsh h1, if_neg h]
theorem vals_one {w : World} {n : Nat} {g : Nat} (hg : g < w.heap.size) (hn : n < 18446744073709551616) (h0 : w.cell? ⟨g, 0, none⟩ = some (.int .u64 (n : Int))) (h1 : w.cell? ⟨g, 1, none⟩ = some (.string ⟨#[]⟩)) :
    IsVals w (.slice (some ⟨g, 0, none⟩) 1 1) [⟨n, ⟨#[]⟩⟩] := by
  refine ⟨_, 1, rfl, by unfold maxLen; simp, ?_, fun _ => ⟨g, 0, rfl, hg, ?_⟩⟩
  · intro x hx
    simp at hx
    subst hx
    exact ⟨hn, by unfold maxLen; show (⟨#[]⟩ : ByteArray).size ≤ _; decide⟩
  · intro i hi
    match i, hi with
    | 0, _ => exact ⟨h0, h1⟩

set_option maxRecDepth 100000 in
set_option maxHeartbeats 4000000 in
theorem walk (a0 : Int) (a1 : Int) (a2 : Int) (w : World) (w0 : (Lit.int .u64 a0).wf = true) (w1 : (Lit.int .u64 a1).wf = true) (w2 : (Lit.int .u8 a2).wf = true) :
    Calls Tryd.prog 7 #[.int .u64 a0, .int .u64 a1, .int .u8 a2] w fun e w' => e = .returned (.bool true) ∧ Below w.heap.size w w' := by
  obtain ⟨l0, u0⟩ := bounds_u64 w0
  obtain ⟨l1, u1⟩ := bounds_u64 w1
  obtain ⟨l2, u2⟩ := bounds_u8 w2
  obtain ⟨a, rfl⟩ := Int.eq_ofNat_of_zero_le l0
  obtain ⟨b, rfl⟩ := Int.eq_ofNat_of_zero_le l1
  obtain ⟨t, rfl⟩ := Int.eq_ofNat_of_zero_le l2
  have ha : a < 18446744073709551616 := by omega
  have hb : b < 18446744073709551616 := by omega
  clear w0 w1 w2 l0 l1 l2
  have h4 : (t : Int) % 4 = 0 ∨ (t : Int) % 4 = 1 ∨ (t : Int) % 4 = 2 ∨ (t : Int) % 4 = 3 := by omega
  rcases h4 with h4 | h4 | h4 | h4
  · have E1 := enc_one (c := 97) rfl (by decide) a
    have E2 := enc_one (c := 97) rfl (by decide) b
    have hw : wd 97 = 1 := rfl
    have hp : 256 ^ 1 = 256 := rfl
    rw [hw, hp] at E1 E2
    have hl := less_be 1 a b
    have n1 := length_be 1 a
    have n2 := length_be 1 b
    rw [hp] at hl
    clear hp hw
    generalize be 1 a = x at *
    generalize be 1 b = y at *
    go_enter Tryd.func7, Tryd.ntmps7
    go_wp2_with fail
    refine (alive_any _).mono ?_
    rintro e v1 ⟨rfl, hb1⟩
    by_cases hra : a < 256
    · have hrI : ((a : Int) / 256 == 0) = true := by simp; omega
      rw [if_pos hra] at E1
      by_cases hrb : b < 256
      · rw [if_pos hrb] at E2
        go_wp2_with fail
        generalize h3 : World.alloc v1 _ = v3
        obtain ⟨B3, z3, k3⟩ := alloc_facts h3
        have hB3 : Below w.heap.size w v3 := hb1.trans (B3.mono hb1.size)
        refine (encode_use ⟨#[97]⟩ _ [⟨a, ⟨#[]⟩⟩] v3 (by unfold maxLen; decide) (vals_one z3 ha (k3 0) (k3 1))).mono ?_
        rw [show enc (⟨#[97]⟩ : ByteArray).data.toList [⟨a, ⟨#[]⟩⟩] = _ from E1]
        clear h3 k3 z3 E1
        rintro e v4 ⟨ac, capc, rfl, hc1, hc2, hi4, hb4⟩
        dsimp only at hc1 hc2 hi4
        have hB4 : Below w.heap.size w v4 := hB3.trans (hb4.mono hB3.size)
        clear hb4 B3
        go_wp2_with fail
        generalize h5 : World.alloc v4 _ = v5
        obtain ⟨B5, z5, k5⟩ := alloc_facts h5
        have hB5 : Below w.heap.size w v5 := hB4.trans (B5.mono hB4.size)
        have hi5 := isB_up hi4 B5
        refine (encode_use ⟨#[97]⟩ _ [⟨b, ⟨#[]⟩⟩] v5 (by unfold maxLen; decide) (vals_one z5 hb (k5 0) (k5 1))).mono ?_
        rw [show enc (⟨#[97]⟩ : ByteArray).data.toList [⟨b, ⟨#[]⟩⟩] = _ from E2]
        clear h5 k5 z5 E2
        rintro e v6 ⟨ad, capd, rfl, hd1, hd2, hi6, hb6⟩
        dsimp only at hd1 hd2 hi6
        have hB6 : Below w.heap.size w v6 := hB5.trans (hb6.mono hB5.size)
        have kc1 := conv_bytes capc (isB_up hi5 hb6) 9 Tryd.underlying9
        have kc2 := conv_bytes capd hi6 9 Tryd.underlying9
        rw [n1] at kc1
        rw [n2] at kc2
        have HL := Lib.hid (hl (by omega) (by omega))
        clear hl hi4 hi5 hi6 hc1 hd1 B5 hb6
        go_wp2_with fail
        go_ret
        exact ⟨by simp [HL.out], hB6⟩
      · rw [if_neg hrb] at E2
        go_wp2_with fail
        generalize h3 : World.alloc v1 _ = v3
        obtain ⟨B3, z3, k3⟩ := alloc_facts h3
        have hB3 : Below w.heap.size w v3 := hb1.trans (B3.mono hb1.size)
        refine (encode_use ⟨#[97]⟩ _ [⟨a, ⟨#[]⟩⟩] v3 (by unfold maxLen; decide) (vals_one z3 ha (k3 0) (k3 1))).mono ?_
        rw [show enc (⟨#[97]⟩ : ByteArray).data.toList [⟨a, ⟨#[]⟩⟩] = _ from E1]
        clear h3 k3 z3 E1
        rintro e v4 ⟨ac, capc, rfl, hc1, hc2, hi4, hb4⟩
        dsimp only at hc1 hc2 hi4
        have hB4 : Below w.heap.size w v4 := hB3.trans (hb4.mono hB3.size)
        clear hb4 B3
        go_wp2_with fail
        generalize h5 : World.alloc v4 _ = v5
        obtain ⟨B5, z5, k5⟩ := alloc_facts h5
        have hB5 : Below w.heap.size w v5 := hB4.trans (B5.mono hB4.size)
        have hi5 := isB_up hi4 B5
        refine (encode_use ⟨#[97]⟩ _ [⟨b, ⟨#[]⟩⟩] v5 (by unfold maxLen; decide) (vals_one z5 hb (k5 0) (k5 1))).mono ?_
        rw [show enc (⟨#[97]⟩ : ByteArray).data.toList [⟨b, ⟨#[]⟩⟩] = _ from E2]
        clear h5 k5 z5 E2
        rintro e v6 ⟨ad, capd, rfl, hd1, hd2, hi6, hb6⟩
        dsimp only at hd1 hd2 hi6
        have hB6 : Below w.heap.size w v6 := hB5.trans (hb6.mono hB5.size)
        clear hl hi4 hi5 hi6 hc1 hd1 B5 hb6
        go_wp2_with fail
        go_ret
        exact ⟨by simp, hB6⟩
    · have hrI : ((a : Int) / 256 == 0) = false := by simp; omega
      rw [if_neg hra] at E1
      by_cases hrb : b < 256
      · rw [if_pos hrb] at E2
        go_wp2_with fail
        generalize h3 : World.alloc v1 _ = v3
        obtain ⟨B3, z3, k3⟩ := alloc_facts h3
        have hB3 : Below w.heap.size w v3 := hb1.trans (B3.mono hb1.size)
        refine (encode_use ⟨#[97]⟩ _ [⟨a, ⟨#[]⟩⟩] v3 (by unfold maxLen; decide) (vals_one z3 ha (k3 0) (k3 1))).mono ?_
        rw [show enc (⟨#[97]⟩ : ByteArray).data.toList [⟨a, ⟨#[]⟩⟩] = _ from E1]
        clear h3 k3 z3 E1
        rintro e v4 ⟨ac, capc, rfl, hc1, hc2, hi4, hb4⟩
        dsimp only at hc1 hc2 hi4
        have hB4 : Below w.heap.size w v4 := hB3.trans (hb4.mono hB3.size)
        clear hb4 B3
        go_wp2_with fail
        generalize h5 : World.alloc v4 _ = v5
        obtain ⟨B5, z5, k5⟩ := alloc_facts h5
        have hB5 : Below w.heap.size w v5 := hB4.trans (B5.mono hB4.size)
        have hi5 := isB_up hi4 B5
        refine (encode_use ⟨#[97]⟩ _ [⟨b, ⟨#[]⟩⟩] v5 (by unfold maxLen; decide) (vals_one z5 hb (k5 0) (k5 1))).mono ?_
        rw [show enc (⟨#[97]⟩ : ByteArray).data.toList [⟨b, ⟨#[]⟩⟩] = _ from E2]
        clear h5 k5 z5 E2
        rintro e v6 ⟨ad, capd, rfl, hd1, hd2, hi6, hb6⟩
        dsimp only at hd1 hd2 hi6
        have hB6 : Below w.heap.size w v6 := hB5.trans (hb6.mono hB5.size)
        clear hl hi4 hi5 hi6 hc1 hd1 B5 hb6
        go_wp2_with fail
        go_ret
        exact ⟨by simp, hB6⟩
      · rw [if_neg hrb] at E2
        go_wp2_with fail
        generalize h3 : World.alloc v1 _ = v3
        obtain ⟨B3, z3, k3⟩ := alloc_facts h3
        have hB3 : Below w.heap.size w v3 := hb1.trans (B3.mono hb1.size)
        refine (encode_use ⟨#[97]⟩ _ [⟨a, ⟨#[]⟩⟩] v3 (by unfold maxLen; decide) (vals_one z3 ha (k3 0) (k3 1))).mono ?_
        rw [show enc (⟨#[97]⟩ : ByteArray).data.toList [⟨a, ⟨#[]⟩⟩] = _ from E1]
        clear h3 k3 z3 E1
        rintro e v4 ⟨ac, capc, rfl, hc1, hc2, hi4, hb4⟩
        dsimp only at hc1 hc2 hi4
        have hB4 : Below w.heap.size w v4 := hB3.trans (hb4.mono hB3.size)
        clear hb4 B3
        go_wp2_with fail
        generalize h5 : World.alloc v4 _ = v5
        obtain ⟨B5, z5, k5⟩ := alloc_facts h5
        have hB5 : Below w.heap.size w v5 := hB4.trans (B5.mono hB4.size)
        have hi5 := isB_up hi4 B5
        refine (encode_use ⟨#[97]⟩ _ [⟨b, ⟨#[]⟩⟩] v5 (by unfold maxLen; decide) (vals_one z5 hb (k5 0) (k5 1))).mono ?_
        rw [show enc (⟨#[97]⟩ : ByteArray).data.toList [⟨b, ⟨#[]⟩⟩] = _ from E2]
        clear h5 k5 z5 E2
        rintro e v6 ⟨ad, capd, rfl, hd1, hd2, hi6, hb6⟩
        dsimp only at hd1 hd2 hi6
        have hB6 : Below w.heap.size w v6 := hB5.trans (hb6.mono hB5.size)
        clear hl hi4 hi5 hi6 hc1 hd1 B5 hb6
        go_wp2_with fail
        go_ret
        exact ⟨by simp, hB6⟩
  · have E1 := enc_one (c := 98) rfl (by decide) a
    have E2 := enc_one (c := 98) rfl (by decide) b
    have hw : wd 98 = 2 := rfl
    have hp : 256 ^ 2 = 65536 := rfl
    rw [hw, hp] at E1 E2
    have hl := less_be 2 a b
    have n1 := length_be 2 a
    have n2 := length_be 2 b
    rw [hp] at hl
    clear hp hw
    generalize be 2 a = x at *
    generalize be 2 b = y at *
    go_enter Tryd.func7, Tryd.ntmps7
    go_wp2_with fail
    refine (alive_any _).mono ?_
    rintro e v1 ⟨rfl, hb1⟩
    by_cases hra : a < 65536
    · have hrI : ((a : Int) / 65536 == 0) = true := by simp; omega
      rw [if_pos hra] at E1
      by_cases hrb : b < 65536
      · rw [if_pos hrb] at E2
        go_wp2_with fail
        generalize h3 : World.alloc v1 _ = v3
        obtain ⟨B3, z3, k3⟩ := alloc_facts h3
        have hB3 : Below w.heap.size w v3 := hb1.trans (B3.mono hb1.size)
        refine (encode_use ⟨#[98]⟩ _ [⟨a, ⟨#[]⟩⟩] v3 (by unfold maxLen; decide) (vals_one z3 ha (k3 0) (k3 1))).mono ?_
        rw [show enc (⟨#[98]⟩ : ByteArray).data.toList [⟨a, ⟨#[]⟩⟩] = _ from E1]
        clear h3 k3 z3 E1
        rintro e v4 ⟨ac, capc, rfl, hc1, hc2, hi4, hb4⟩
        dsimp only at hc1 hc2 hi4
        have hB4 : Below w.heap.size w v4 := hB3.trans (hb4.mono hB3.size)
        clear hb4 B3
        go_wp2_with fail
        generalize h5 : World.alloc v4 _ = v5
        obtain ⟨B5, z5, k5⟩ := alloc_facts h5
        have hB5 : Below w.heap.size w v5 := hB4.trans (B5.mono hB4.size)
        have hi5 := isB_up hi4 B5
        refine (encode_use ⟨#[98]⟩ _ [⟨b, ⟨#[]⟩⟩] v5 (by unfold maxLen; decide) (vals_one z5 hb (k5 0) (k5 1))).mono ?_
        rw [show enc (⟨#[98]⟩ : ByteArray).data.toList [⟨b, ⟨#[]⟩⟩] = _ from E2]
        clear h5 k5 z5 E2
        rintro e v6 ⟨ad, capd, rfl, hd1, hd2, hi6, hb6⟩
        dsimp only at hd1 hd2 hi6
        have hB6 : Below w.heap.size w v6 := hB5.trans (hb6.mono hB5.size)
        have kc1 := conv_bytes capc (isB_up hi5 hb6) 9 Tryd.underlying9
        have kc2 := conv_bytes capd hi6 9 Tryd.underlying9
        rw [n1] at kc1
        rw [n2] at kc2
        have HL := Lib.hid (hl (by omega) (by omega))
        clear hl hi4 hi5 hi6 hc1 hd1 B5 hb6
        go_wp2_with fail
        go_ret
        exact ⟨by simp [HL.out], hB6⟩
      · rw [if_neg hrb] at E2
        go_wp2_with fail
        generalize h3 : World.alloc v1 _ = v3
        obtain ⟨B3, z3, k3⟩ := alloc_facts h3
        have hB3 : Below w.heap.size w v3 := hb1.trans (B3.mono hb1.size)
        refine (encode_use ⟨#[98]⟩ _ [⟨a, ⟨#[]⟩⟩] v3 (by unfold maxLen; decide) (vals_one z3 ha (k3 0) (k3 1))).mono ?_
        rw [show enc (⟨#[98]⟩ : ByteArray).data.toList [⟨a, ⟨#[]⟩⟩] = _ from E1]
        clear h3 k3 z3 E1
        rintro e v4 ⟨ac, capc, rfl, hc1, hc2, hi4, hb4⟩
        dsimp only at hc1 hc2 hi4
        have hB4 : Below w.heap.size w v4 := hB3.trans (hb4.mono hB3.size)
        clear hb4 B3
        go_wp2_with fail
        generalize h5 : World.alloc v4 _ = v5
        obtain ⟨B5, z5, k5⟩ := alloc_facts h5
        have hB5 : Below w.heap.size w v5 := hB4.trans (B5.mono hB4.size)
        have hi5 := isB_up hi4 B5
        refine (encode_use ⟨#[98]⟩ _ [⟨b, ⟨#[]⟩⟩] v5 (by unfold maxLen; decide) (vals_one z5 hb (k5 0) (k5 1))).mono ?_
        rw [show enc (⟨#[98]⟩ : ByteArray).data.toList [⟨b, ⟨#[]⟩⟩] = _ from E2]
        clear h5 k5 z5 E2
        rintro e v6 ⟨ad, capd, rfl, hd1, hd2, hi6, hb6⟩
        dsimp only at hd1 hd2 hi6
        have hB6 : Below w.heap.size w v6 := hB5.trans (hb6.mono hB5.size)
        clear hl hi4 hi5 hi6 hc1 hd1 B5 hb6
        go_wp2_with fail
        go_ret
        exact ⟨by simp, hB6⟩
    · have hrI : ((a : Int) / 65536 == 0) = false := by simp; omega
      rw [if_neg hra] at E1
      by_cases hrb : b < 65536
      · rw [if_pos hrb] at E2
        go_wp2_with fail
        generalize h3 : World.alloc v1 _ = v3
        obtain ⟨B3, z3, k3⟩ := alloc_facts h3
        have hB3 : Below w.heap.size w v3 := hb1.trans (B3.mono hb1.size)
        refine (encode_use ⟨#[98]⟩ _ [⟨a, ⟨#[]⟩⟩] v3 (by unfold maxLen; decide) (vals_one z3 ha (k3 0) (k3 1))).mono ?_
        rw [show enc (⟨#[98]⟩ : ByteArray).data.toList [⟨a, ⟨#[]⟩⟩] = _ from E1]
        clear h3 k3 z3 E1
        rintro e v4 ⟨ac, capc, rfl, hc1, hc2, hi4, hb4⟩
        dsimp only at hc1 hc2 hi4
        have hB4 : Below w.heap.size w v4 := hB3.trans (hb4.mono hB3.size)
        clear hb4 B3
        go_wp2_with fail
        generalize h5 : World.alloc v4 _ = v5
        obtain ⟨B5, z5, k5⟩ := alloc_facts h5
        have hB5 : Below w.heap.size w v5 := hB4.trans (B5.mono hB4.size)
        have hi5 := isB_up hi4 B5
        refine (encode_use ⟨#[98]⟩ _ [⟨b, ⟨#[]⟩⟩] v5 (by unfold maxLen; decide) (vals_one z5 hb (k5 0) (k5 1))).mono ?_
        rw [show enc (⟨#[98]⟩ : ByteArray).data.toList [⟨b, ⟨#[]⟩⟩] = _ from E2]
        clear h5 k5 z5 E2
        rintro e v6 ⟨ad, capd, rfl, hd1, hd2, hi6, hb6⟩
        dsimp only at hd1 hd2 hi6
        have hB6 : Below w.heap.size w v6 := hB5.trans (hb6.mono hB5.size)
        clear hl hi4 hi5 hi6 hc1 hd1 B5 hb6
        go_wp2_with fail
        go_ret
        exact ⟨by simp, hB6⟩
      · rw [if_neg hrb] at E2
        go_wp2_with fail
        generalize h3 : World.alloc v1 _ = v3
        obtain ⟨B3, z3, k3⟩ := alloc_facts h3
        have hB3 : Below w.heap.size w v3 := hb1.trans (B3.mono hb1.size)
        refine (encode_use ⟨#[98]⟩ _ [⟨a, ⟨#[]⟩⟩] v3 (by unfold maxLen; decide) (vals_one z3 ha (k3 0) (k3 1))).mono ?_
        rw [show enc (⟨#[98]⟩ : ByteArray).data.toList [⟨a, ⟨#[]⟩⟩] = _ from E1]
        clear h3 k3 z3 E1
        rintro e v4 ⟨ac, capc, rfl, hc1, hc2, hi4, hb4⟩
        dsimp only at hc1 hc2 hi4
        have hB4 : Below w.heap.size w v4 := hB3.trans (hb4.mono hB3.size)
        clear hb4 B3
        go_wp2_with fail
        generalize h5 : World.alloc v4 _ = v5
        obtain ⟨B5, z5, k5⟩ := alloc_facts h5
        have hB5 : Below w.heap.size w v5 := hB4.trans (B5.mono hB4.size)
        have hi5 := isB_up hi4 B5
        refine (encode_use ⟨#[98]⟩ _ [⟨b, ⟨#[]⟩⟩] v5 (by unfold maxLen; decide) (vals_one z5 hb (k5 0) (k5 1))).mono ?_
        rw [show enc (⟨#[98]⟩ : ByteArray).data.toList [⟨b, ⟨#[]⟩⟩] = _ from E2]
        clear h5 k5 z5 E2
        rintro e v6 ⟨ad, capd, rfl, hd1, hd2, hi6, hb6⟩
        dsimp only at hd1 hd2 hi6
        have hB6 : Below w.heap.size w v6 := hB5.trans (hb6.mono hB5.size)
        clear hl hi4 hi5 hi6 hc1 hd1 B5 hb6
        go_wp2_with fail
        go_ret
        exact ⟨by simp, hB6⟩
  · have E1 := enc_one (c := 99) rfl (by decide) a
    have E2 := enc_one (c := 99) rfl (by decide) b
    have hw : wd 99 = 4 := rfl
    have hp : 256 ^ 4 = 4294967296 := rfl
    rw [hw, hp] at E1 E2
    have hl := less_be 4 a b
    have n1 := length_be 4 a
    have n2 := length_be 4 b
    rw [hp] at hl
    clear hp hw
    generalize be 4 a = x at *
    generalize be 4 b = y at *
    go_enter Tryd.func7, Tryd.ntmps7
    go_wp2_with fail
    refine (alive_any _).mono ?_
    rintro e v1 ⟨rfl, hb1⟩
    by_cases hra : a < 4294967296
    · have hrI : ((a : Int) / 4294967296 == 0) = true := by simp; omega
      rw [if_pos hra] at E1
      by_cases hrb : b < 4294967296
      · rw [if_pos hrb] at E2
        go_wp2_with fail
        generalize h3 : World.alloc v1 _ = v3
        obtain ⟨B3, z3, k3⟩ := alloc_facts h3
        have hB3 : Below w.heap.size w v3 := hb1.trans (B3.mono hb1.size)
        refine (encode_use ⟨#[99]⟩ _ [⟨a, ⟨#[]⟩⟩] v3 (by unfold maxLen; decide) (vals_one z3 ha (k3 0) (k3 1))).mono ?_
        rw [show enc (⟨#[99]⟩ : ByteArray).data.toList [⟨a, ⟨#[]⟩⟩] = _ from E1]
        clear h3 k3 z3 E1
        rintro e v4 ⟨ac, capc, rfl, hc1, hc2, hi4, hb4⟩
        dsimp only at hc1 hc2 hi4
        have hB4 : Below w.heap.size w v4 := hB3.trans (hb4.mono hB3.size)
        clear hb4 B3
        go_wp2_with fail
        generalize h5 : World.alloc v4 _ = v5
        obtain ⟨B5, z5, k5⟩ := alloc_facts h5
        have hB5 : Below w.heap.size w v5 := hB4.trans (B5.mono hB4.size)
        have hi5 := isB_up hi4 B5
        refine (encode_use ⟨#[99]⟩ _ [⟨b, ⟨#[]⟩⟩] v5 (by unfold maxLen; decide) (vals_one z5 hb (k5 0) (k5 1))).mono ?_
        rw [show enc (⟨#[99]⟩ : ByteArray).data.toList [⟨b, ⟨#[]⟩⟩] = _ from E2]
        clear h5 k5 z5 E2
        rintro e v6 ⟨ad, capd, rfl, hd1, hd2, hi6, hb6⟩
        dsimp only at hd1 hd2 hi6
        have hB6 : Below w.heap.size w v6 := hB5.trans (hb6.mono hB5.size)
        have kc1 := conv_bytes capc (isB_up hi5 hb6) 9 Tryd.underlying9
        have kc2 := conv_bytes capd hi6 9 Tryd.underlying9
        rw [n1] at kc1
        rw [n2] at kc2
        have HL := Lib.hid (hl (by omega) (by omega))
        clear hl hi4 hi5 hi6 hc1 hd1 B5 hb6
        go_wp2_with fail
        go_ret
        exact ⟨by simp [HL.out], hB6⟩
      · rw [if_neg hrb] at E2
        go_wp2_with fail
        generalize h3 : World.alloc v1 _ = v3
        obtain ⟨B3, z3, k3⟩ := alloc_facts h3
        have hB3 : Below w.heap.size w v3 := hb1.trans (B3.mono hb1.size)
        refine (encode_use ⟨#[99]⟩ _ [⟨a, ⟨#[]⟩⟩] v3 (by unfold maxLen; decide) (vals_one z3 ha (k3 0) (k3 1))).mono ?_
        rw [show enc (⟨#[99]⟩ : ByteArray).data.toList [⟨a, ⟨#[]⟩⟩] = _ from E1]
        clear h3 k3 z3 E1
        rintro e v4 ⟨ac, capc, rfl, hc1, hc2, hi4, hb4⟩
        dsimp only at hc1 hc2 hi4
        have hB4 : Below w.heap.size w v4 := hB3.trans (hb4.mono hB3.size)
        clear hb4 B3
        go_wp2_with fail
        generalize h5 : World.alloc v4 _ = v5
        obtain ⟨B5, z5, k5⟩ := alloc_facts h5
        have hB5 : Below w.heap.size w v5 := hB4.trans (B5.mono hB4.size)
        have hi5 := isB_up hi4 B5
        refine (encode_use ⟨#[99]⟩ _ [⟨b, ⟨#[]⟩⟩] v5 (by unfold maxLen; decide) (vals_one z5 hb (k5 0) (k5 1))).mono ?_
        rw [show enc (⟨#[99]⟩ : ByteArray).data.toList [⟨b, ⟨#[]⟩⟩] = _ from E2]
        clear h5 k5 z5 E2
        rintro e v6 ⟨ad, capd, rfl, hd1, hd2, hi6, hb6⟩
        dsimp only at hd1 hd2 hi6
        have hB6 : Below w.heap.size w v6 := hB5.trans (hb6.mono hB5.size)
        clear hl hi4 hi5 hi6 hc1 hd1 B5 hb6
        go_wp2_with fail
        go_ret
        exact ⟨by simp, hB6⟩
    · have hrI : ((a : Int) / 4294967296 == 0) = false := by simp; omega
      rw [if_neg hra] at E1
      by_cases hrb : b < 4294967296
      · rw [if_pos hrb] at E2
        go_wp2_with fail
        generalize h3 : World.alloc v1 _ = v3
        obtain ⟨B3, z3, k3⟩ := alloc_facts h3
        have hB3 : Below w.heap.size w v3 := hb1.trans (B3.mono hb1.size)
        refine (encode_use ⟨#[99]⟩ _ [⟨a, ⟨#[]⟩⟩] v3 (by unfold maxLen; decide) (vals_one z3 ha (k3 0) (k3 1))).mono ?_
        rw [show enc (⟨#[99]⟩ : ByteArray).data.toList [⟨a, ⟨#[]⟩⟩] = _ from E1]
        clear h3 k3 z3 E1
        rintro e v4 ⟨ac, capc, rfl, hc1, hc2, hi4, hb4⟩
        dsimp only at hc1 hc2 hi4
        have hB4 : Below w.heap.size w v4 := hB3.trans (hb4.mono hB3.size)
        clear hb4 B3
        go_wp2_with fail
        generalize h5 : World.alloc v4 _ = v5
        obtain ⟨B5, z5, k5⟩ := alloc_facts h5
        have hB5 : Below w.heap.size w v5 := hB4.trans (B5.mono hB4.size)
        have hi5 := isB_up hi4 B5
        refine (encode_use ⟨#[99]⟩ _ [⟨b, ⟨#[]⟩⟩] v5 (by unfold maxLen; decide) (vals_one z5 hb (k5 0) (k5 1))).mono ?_
        rw [show enc (⟨#[99]⟩ : ByteArray).data.toList [⟨b, ⟨#[]⟩⟩] = _ from E2]
        clear h5 k5 z5 E2
        rintro e v6 ⟨ad, capd, rfl, hd1, hd2, hi6, hb6⟩
        dsimp only at hd1 hd2 hi6
        have hB6 : Below w.heap.size w v6 := hB5.trans (hb6.mono hB5.size)
        clear hl hi4 hi5 hi6 hc1 hd1 B5 hb6
        go_wp2_with fail
        go_ret
        exact ⟨by simp, hB6⟩
      · rw [if_neg hrb] at E2
        go_wp2_with fail
        generalize h3 : World.alloc v1 _ = v3
        obtain ⟨B3, z3, k3⟩ := alloc_facts h3
        have hB3 : Below w.heap.size w v3 := hb1.trans (B3.mono hb1.size)
        refine (encode_use ⟨#[99]⟩ _ [⟨a, ⟨#[]⟩⟩] v3 (by unfold maxLen; decide) (vals_one z3 ha (k3 0) (k3 1))).mono ?_
        rw [show enc (⟨#[99]⟩ : ByteArray).data.toList [⟨a, ⟨#[]⟩⟩] = _ from E1]
        clear h3 k3 z3 E1
        rintro e v4 ⟨ac, capc, rfl, hc1, hc2, hi4, hb4⟩
        dsimp only at hc1 hc2 hi4
        have hB4 : Below w.heap.size w v4 := hB3.trans (hb4.mono hB3.size)
        clear hb4 B3
        go_wp2_with fail
        generalize h5 : World.alloc v4 _ = v5
        obtain ⟨B5, z5, k5⟩ := alloc_facts h5
        have hB5 : Below w.heap.size w v5 := hB4.trans (B5.mono hB4.size)
        have hi5 := isB_up hi4 B5
        refine (encode_use ⟨#[99]⟩ _ [⟨b, ⟨#[]⟩⟩] v5 (by unfold maxLen; decide) (vals_one z5 hb (k5 0) (k5 1))).mono ?_
        rw [show enc (⟨#[99]⟩ : ByteArray).data.toList [⟨b, ⟨#[]⟩⟩] = _ from E2]
        clear h5 k5 z5 E2
        rintro e v6 ⟨ad, capd, rfl, hd1, hd2, hi6, hb6⟩
        dsimp only at hd1 hd2 hi6
        have hB6 : Below w.heap.size w v6 := hB5.trans (hb6.mono hB5.size)
        clear hl hi4 hi5 hi6 hc1 hd1 B5 hb6
        go_wp2_with fail
        go_ret
        exact ⟨by simp, hB6⟩
  · have E1 := enc_one (c := 100) rfl (by decide) a
    have E2 := enc_one (c := 100) rfl (by decide) b
    have hw : wd 100 = 8 := rfl
    have hp : 256 ^ 8 = 18446744073709551616 := rfl
    rw [hw, hp] at E1 E2
    have hl := less_be 8 a b
    have n1 := length_be 8 a
    have n2 := length_be 8 b
    rw [hp] at hl
    clear hp hw
    generalize be 8 a = x at *
    generalize be 8 b = y at *
    go_enter Tryd.func7, Tryd.ntmps7
    go_wp2_with fail
    refine (alive_any _).mono ?_
    rintro e v1 ⟨rfl, hb1⟩
    rw [if_pos (by omega)] at E1 E2
    go_wp2_with fail
    generalize h3 : World.alloc v1 _ = v3
    obtain ⟨B3, z3, k3⟩ := alloc_facts h3
    have hB3 : Below w.heap.size w v3 := hb1.trans (B3.mono hb1.size)
    refine (encode_use ⟨#[100]⟩ _ [⟨a, ⟨#[]⟩⟩] v3 (by unfold maxLen; decide) (vals_one z3 ha (k3 0) (k3 1))).mono ?_
    rw [show enc (⟨#[100]⟩ : ByteArray).data.toList [⟨a, ⟨#[]⟩⟩] = _ from E1]
    clear h3 k3 z3 E1
    rintro e v4 ⟨ac, capc, rfl, hc1, hc2, hi4, hb4⟩
    dsimp only at hc1 hc2 hi4
    have hB4 : Below w.heap.size w v4 := hB3.trans (hb4.mono hB3.size)
    clear hb4 B3
    go_wp2_with fail
    generalize h5 : World.alloc v4 _ = v5
    obtain ⟨B5, z5, k5⟩ := alloc_facts h5
    have hB5 : Below w.heap.size w v5 := hB4.trans (B5.mono hB4.size)
    have hi5 := isB_up hi4 B5
    refine (encode_use ⟨#[100]⟩ _ [⟨b, ⟨#[]⟩⟩] v5 (by unfold maxLen; decide) (vals_one z5 hb (k5 0) (k5 1))).mono ?_
    rw [show enc (⟨#[100]⟩ : ByteArray).data.toList [⟨b, ⟨#[]⟩⟩] = _ from E2]
    clear h5 k5 z5 E2
    rintro e v6 ⟨ad, capd, rfl, hd1, hd2, hi6, hb6⟩
    dsimp only at hd1 hd2 hi6
    have hB6 : Below w.heap.size w v6 := hB5.trans (hb6.mono hB5.size)
    have kc1 := conv_bytes capc (isB_up hi5 hb6) 9 Tryd.underlying9
    have kc2 := conv_bytes capd hi6 9 Tryd.underlying9
    rw [n1] at kc1
    rw [n2] at kc2
    have HL := Lib.hid (hl (by omega) (by omega))
    clear hl hi4 hi5 hi6 hc1 hd1 B5 hb6
    go_wp2_with fail
    go_ret
    exact ⟨by simp [HL.out], hB6⟩
end Go.Proofs.YtpacapcloggbkaaDoor.LCodeRising
