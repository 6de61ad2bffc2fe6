/- Each letter's value has as many bytes as it says, and a text two more than it has: for every shape and all values the statement's call returns true. -/
import Derived.Test.YtpacapcloggbkaaDoorCodeUse
namespace Go.Proofs.YtpacapcloggbkaaDoor.LCodeSizes
open Go.RowKit CodeSpec Flat CodeMem
set_option linter.unusedSimpArgs false
set_option linter.unusedVariables false

def size1 (c : UInt8) (v : V) : Nat := if c = 116 then 2 + v.s.size else wd c
theorem one_len (c : UInt8) (v : V) : (one c v).length = size1 c v := by
  unfold one size1
  split
  · rw [List.length_append, length_be, size_toList]
  · exact length_be _ _
def sizes : List UInt8 → List V → Nat
  | c :: cs, v :: vs => size1 c v + sizes cs vs
  | _, _ => 0
theorem enc_sizes : ∀ (sh : List UInt8) (vs : List V) (o : List UInt8), encL sh vs = some o → o.length = sizes sh vs
  | [], [], o, h => by simp [encL] at h; subst h; rfl
  | [], _ :: _, o, h => by simp [encL] at h
  | _ :: _, [], o, h => by simp [encL] at h
  | c :: cs, v :: vs, o, h => by
    rw [encL] at h
    split at h
    · obtain ⟨o', ho, rfl⟩ := Option.map_eq_some_iff.mp h
      rw [List.length_append, one_len, enc_sizes cs vs o' ho, sizes]
    · cases h
theorem sizes_drop {sh : List UInt8} {vs : List V} {k : Nat} (h1 : k < sh.length) (h2 : k < vs.length) : sizes (sh.drop k) (vs.drop k) = size1 sh[k] vs[k] + sizes (sh.drop (k + 1)) (vs.drop (k + 1)) := by
  rw [List.drop_eq_getElem_cons h1, List.drop_eq_getElem_cons h2, sizes]
theorem enc_nil {sh : List UInt8} {vs : List V} (h : (enc sh vs).2 ≠ 0) : (enc sh vs).1 = [] := by
  unfold enc at h ⊢
  (repeat' split) <;> simp_all

set_option maxRecDepth 100000 in
set_option maxHeartbeats 4000000 in
theorem walk (a0 : ByteArray) (a1 : Option Addr) (len1 cap1 : Nat) (r1 : List (List Value)) (w : World) (w0 : a0.size ≤ maxLen) (w1 : IsRows [.int .u64, .str] w a1 len1 cap1 r1) :
    Calls Tryd.prog 8 #[.string a0, .slice a1 len1 cap1] w fun e w' => e = .returned (.bool true) ∧ Below w.heap.size w w' := by
  obtain ⟨vs, rfl, hv⟩ := rows_vals w1
  have hs := w0
  unfold maxLen at hs
  clear w1
  by_cases h110 : 110 < a0.size
  · have hI : (110 : Int) < (a0.size : Int) := by omega
    go_enter Tryd.func8, Tryd.ntmps8
    go_wp2_with fail
    refine (alive_any _).mono ?_
    rintro e v1 ⟨rfl, hb1⟩
    go_wp2_with fail
    go_ret
    exact ⟨rfl, hb1⟩
  · have hI : ¬ (110 : Int) < (a0.size : Int) := by omega
    go_enter Tryd.func8, Tryd.ntmps8
    go_wp2_with fail
    refine (alive_any _).mono ?_
    rintro e v1 ⟨rfl, hb1⟩
    have hv1 := vals_below hv hb1
    go_wp2_with fail
    refine (few_any _ vs v1 hv1).mono ?_
    rintro e v2 ⟨b, rfl, hfew, hb2⟩
    have hB2 : Below w.heap.size w v2 := hb1.trans (hb2.mono hb1.size)
    have hv2 := vals_below hv1 hb2
    clear hv1 hb1 hb2
    cases b with
    | false =>
      clear hfew
      go_wp2_with fail
      go_ret
      exact ⟨rfl, hB2⟩
    | true =>
      have hl := hfew rfl
      clear hfew
      go_wp2_with fail
      refine (theirs_use _ vs v2 hv2 (by omega)).mono ?_
      rintro e v3 ⟨u, rfl, hu, hb3⟩
      have hB3 : Below w.heap.size w v3 := hB2.trans (hb3.mono hB2.size)
      have hv3 := vals_below hv2 hb3
      clear hv2 hb3 hB2
      go_wp2_with fail
      refine (encode_use a0 u vs v3 w0 hu).mono ?_
      have HN := @enc_nil a0.data.toList vs
      have HO := fun o => @enc_ok a0.data.toList vs o
      generalize enc a0.data.toList vs = T at *
      obtain ⟨out, er⟩ := T
      rintro e v4 ⟨ac, capc, rfl, hc1, hc2, hi4, hb4⟩
      dsimp only at hc1 hc2 hi4 HN
      have hB4 : Below w.heap.size w v4 := hB3.trans (hb4.mono hB3.size)
      have hv4 := vals_below hv3 hb4
      clear hv3 hb4 hB3 hu hv hi4
      by_cases h0 : er = 0
      · subst h0
        obtain ⟨hsh, hE, h4⟩ := (HO out).mp rfl
        have hsz := enc_sizes _ _ _ hE
        have hvl := encL_len _ _ _ hE
        rw [size_toList] at hvl
        clear HN HO hE
        have HLET : ∀ k (h : k < a0.data.toList.length), letter (a0.data.toList[k]) = true := fun k h => by
          unfold shapeB at hsh
          simp only [Bool.and_eq_true, List.all_eq_true] at hsh
          exact hsh.1 _ (List.getElem_mem _)
        have HL := Lib.hid HLET
        have HV := Lib.hid hvl
        have HSZ := Lib.hid hsz
        have H4 : (out.length : Int) ≤ 4000 := by omega
        obtain ⟨a, cap, hV, _, hall, hcells⟩ := hv4
        cases hV
        clear HLET hvl hsh hsz
        go_wp2_with fail
        go_loop [7, 33] (fun z i => ∃ k m : Nat, k ≤ a0.size ∧ i = .int .i64 k ∧ z = .int .i64 m ∧ Hid (m + sizes (a0.data.toList.drop k) (vs.drop k) = out.length)) (fun _ i => a0.size - (intOf i).toNat)
        case atStart => exact ⟨0, 0, Nat.zero_le _, rfl, rfl, Lib.hid (by simpa using HSZ.out.symm)⟩
        case round =>
          obtain ⟨k, m, hk, rfl, rfl, hm⟩ := hrel
          have hmo : m ≤ out.length := by have := hm.out; omega
          by_cases hkl : k < a0.size
          · have hkt : k < a0.data.toList.length := by rw [size_toList]; exact hkl
            have hkv : k < vs.length := by rw [HV.out]; exact hkl
            have hlet := HL.out k hkt
            have hck : a0.data.toList[k] = a0[k] := rfl
            have hst := sizes_drop hkt hkv
            obtain ⟨b0, off, hab, hbw, hcs⟩ := hcells (by omega)
            subst hab
            obtain ⟨_, d1⟩ := hcs k hkv
            obtain ⟨_, hts⟩ := hall _ (List.getElem_mem hkv)
            rw [hck] at hlet hst
            have hkI : (k : Int) < (a0.size : Int) := by omega
            have hkV : (k : Int) < (vs.length : Int) := by omega
            have hsb : size1 a0[k] vs[k] ≤ 4000 := by have := hm.out; omega
            clear hcs hcells hall hck
            generalize vs[k] = x at *
            have h5 : a0[k] = 97 ∨ a0[k] = 98 ∨ a0[k] = 99 ∨ a0[k] = 100 ∨ a0[k] = 116 := by simpa only [letter, Bool.or_eq_true, beq_iff_eq, or_assoc] using hlet
            clear hlet
            rcases h5 with h5 | h5 | h5 | h5 | h5
            all_goals
              rw [h5] at hst hsb
              have HST := Lib.hid hst
              clear hst
            · clear hsb
              go_wp2_with fail
              go_round
              case rel => exact ⟨k + 1, m + 1, by omega, by go_num, by go_num, Lib.hid (by rw [← hm.out, HST.out]; show m + 1 + _ = m + (1 + _); omega)⟩
              case measure => simp [intOf]; omega
            · clear hsb
              go_wp2_with fail
              go_round
              case rel => exact ⟨k + 1, m + 2, by omega, by go_num, by go_num, Lib.hid (by rw [← hm.out, HST.out]; show m + 2 + _ = m + (2 + _); omega)⟩
              case measure => simp [intOf]; omega
            · clear hsb
              go_wp2_with fail
              go_round
              case rel => exact ⟨k + 1, m + 4, by omega, by go_num, by go_num, Lib.hid (by rw [← hm.out, HST.out]; show m + 4 + _ = m + (4 + _); omega)⟩
              case measure => simp [intOf]; omega
            · clear hsb
              go_wp2_with fail
              go_round
              case rel => exact ⟨k + 1, m + 8, by omega, by go_num, by go_num, Lib.hid (by rw [← hm.out, HST.out]; show m + 8 + _ = m + (8 + _); omega)⟩
              case measure => simp [intOf]; omega
            · have hts2 : (x.s.size : Int) ≤ 4000 := by
                have : 2 + x.s.size ≤ 4000 := hsb
                omega
              clear hsb
              go_wp2_with fail
              go_round
              case rel => exact ⟨k + 1, m + (2 + x.s.size), by omega, by go_num, by go_num, Lib.hid (by rw [← hm.out, HST.out]; show m + (2 + x.s.size) + _ = m + ((2 + x.s.size) + _); omega)⟩
              case measure => simp [intOf]; omega
          · have hkI : ¬ (k : Int) < (a0.size : Int) := by omega
            have hfin : m = out.length := by
              have h1 := hm.out
              rw [List.drop_of_length_le (by rw [size_toList]; omega)] at h1
              simpa [sizes] using h1
            subst hfin
            go_wp2_with fail
            go_ret
            exact ⟨by simp [H4], hB4⟩
      · have hnil := HN h0
        subst hnil
        have h0b : (er != 0) = true := by simpa using h0
        clear HN HO h0
        go_wp2_with fail
        go_ret
        exact ⟨rfl, hB4⟩
end Go.Proofs.YtpacapcloggbkaaDoor.LCodeSizes
