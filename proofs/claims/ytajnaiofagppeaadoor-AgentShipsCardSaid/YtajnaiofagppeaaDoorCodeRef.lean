/- What the reference's small functions answer: width, Shape, fits, number. -/
import Derived.Test.YtajnaiofagppeaaDoorCodeNumber
import Derived.Deep.DeepCutAuto
import Derived.Deep.CutBlock
namespace Go.Proofs.YtajnaiofagppeaaDoor.CodeMem
open Go.RowKit CodeSpec Flat
set_option linter.unusedSimpArgs false
set_option linter.unusedVariables false
set_option maxRecDepth 100000

theorem noS_empty {t : ByteArray} (h : t.size ≠ 0) : t.toList.isEmpty = false := by
  rw [Go.Lib.toList_data]
  cases h2 : t.data.toList with
  | nil => exact absurd (by rw [← size_toList, h2]; rfl) h
  | cons c r => rfl
def rwd (c : UInt8) : Nat := if c = 97 then 1 else if c = 98 then 2 else if c = 99 then 4 else if c = 100 then 8 else 0
theorem toNat_ne {c : UInt8} {n : Nat} (hn : n < 256) (h : c ≠ UInt8.ofNat n) : ((c.toNat : Int) == (n : Int)) = false := by
  simp
  intro e
  apply h
  apply UInt8.toNat_inj.mp
  simp
  omega
theorem rwidth_any (c : UInt8) (w : World) :
    Calls Tryd.prog 62 #[.int .u8 c.toNat] w fun e w' => e = .returned (.int .i64 (rwd c)) ∧ w = w' := by
  by_cases h1 : c = 97
  · subst h1
    go_enter Tryd.func62, Tryd.ntmps62
    go_wp2
    go_ret
    exact ⟨rfl, rfl⟩
  by_cases h2 : c = 98
  · subst h2
    go_enter Tryd.func62, Tryd.ntmps62
    go_wp2
    go_ret
    exact ⟨rfl, rfl⟩
  by_cases h3 : c = 99
  · subst h3
    go_enter Tryd.func62, Tryd.ntmps62
    go_wp2
    go_ret
    exact ⟨rfl, rfl⟩
  by_cases h4 : c = 100
  · subst h4
    go_enter Tryd.func62, Tryd.ntmps62
    go_wp2
    go_ret
    exact ⟨rfl, rfl⟩
  · have e : rwd c = 0 := by simp [rwd, h1, h2, h3, h4]
    have f1 : ((c.toNat : Int) == 97) = false := toNat_ne (n := 97) (by decide) h1
    have f2 : ((c.toNat : Int) == 98) = false := toNat_ne (n := 98) (by decide) h2
    have f3 : ((c.toNat : Int) == 99) = false := toNat_ne (n := 99) (by decide) h3
    have f4 : ((c.toNat : Int) == 100) = false := toNat_ne (n := 100) (by decide) h4
    rw [e]
    clear e
    go_enter Tryd.func62, Tryd.ntmps62
    go_wp2
    go_ret
    exact ⟨rfl, rfl⟩

theorem shape_take {l : List UInt8} {k : Nat} (h : k < l.length) : (l.take (k + 1)).all letter = ((l.take k).all letter && letter l[k]) := by
  rw [List.take_succ_eq_append_getElem h, List.all_append]; simp

set_option maxHeartbeats 1000000 in
theorem rshape_any (s : ByteArray) (w : World) (hs : s.size ≤ maxLen) :
    Calls Tryd.prog 59 #[.string s] w fun e w' => e = .returned (.bool (shapeB s.data.toList)) ∧ w = w' := by
  have hsz := size_toList s
  unfold maxLen at hs
  have HSZ := Lib.hid hsz
  clear hsz
  go_enter Tryd.func59, Tryd.ntmps59
  go_wp2
  go_loop [3] (fun i => ∃ k : Nat, k ≤ s.size ∧ i = .int .i64 k ∧ Hid ((s.data.toList.take k).all letter = true)) (fun i => s.size - (intOf i).toNat)
  case atStart => exact ⟨0, Nat.zero_le _, rfl, Lib.hid (by simp)⟩
  case round =>
    obtain ⟨k, hk, rfl, hall⟩ := hrel
    by_cases hkl : k < s.size
    · have hkI : (k : Int) < (s.size : Int) := by omega
      have ht := shape_take (l := s.data.toList) (k := k) (by rw [HSZ.out]; exact hkl)
      have hck : s.data.toList[k]'(by rw [HSZ.out]; exact hkl) = s[k] := rfl
      rw [hck, hall.out, Bool.true_and] at ht
      have HT := Lib.hid ht
      clear ht hck
      have HW := rwidth_any s[k] w
      cases hlet : letter s[k] with
      | true =>
        rw [hlet] at HT
        have h5 : s[k] = 97 ∨ s[k] = 98 ∨ s[k] = 99 ∨ s[k] = 100 ∨ s[k] = 116 := by simpa only [letter, Bool.or_eq_true, beq_iff_eq, or_assoc] using hlet
        clear hlet
        rcases h5 with h5 | h5 | h5 | h5 | h5
        all_goals
          rw [h5] at HW
          simp only [rwd, reduceIte, UInt8.reduceToNat] at HW
          go_wp2_with (go_at_call 62; refine HW.mono ?_; rintro e w' ⟨rfl, rfl⟩)
          go_round
          case rel => exact ⟨k + 1, by omega, by go_num, HT⟩
          case measure => simp [intOf]; omega
      | false =>
        rw [hlet] at HT
        have hne : s[k] ≠ 97 ∧ s[k] ≠ 98 ∧ s[k] ≠ 99 ∧ s[k] ≠ 100 ∧ s[k] ≠ 116 := by
          simpa only [letter, Bool.or_eq_false_iff, beq_eq_false_iff_ne, ne_eq, and_assoc] using hlet
        obtain ⟨n1, n2, n3, n4, n5⟩ := hne
        have e0 : rwd s[k] = 0 := by simp [rwd, n1, n2, n3, n4]
        have f5 : ((s[k].toNat : Int) != 116) = true := by
          have := toNat_ne (c := s[k]) (n := 116) (by decide) n5
          simpa using this
        rw [e0] at HW
        clear n1 n2 n3 n4 n5 e0 hlet
        have hF : shapeB s.data.toList = false := by
          have h2 : s.data.toList.all letter = false := by
            cases h3 : s.data.toList.all letter with
            | false => rfl
            | true =>
              have h4 : (s.data.toList.take (k + 1)).all letter = true := by
                rw [List.all_eq_true] at h3 ⊢
                exact fun x hx => h3 x (List.mem_of_mem_take hx)
              rw [HT.out] at h4; cases h4
          unfold shapeB
          rw [h2]; rfl
        have HF := Lib.hid hF
        clear hF
        go_wp2_with (go_at_call 62; refine HW.mono ?_; rintro e w' ⟨rfl, rfl⟩)
        go_ret
        exact ⟨by rw [HF.out]; rfl, rfl⟩
    · obtain rfl : k = s.size := by omega
      have hA : s.data.toList.all letter = true := by
        have := hall.out
        rwa [List.take_of_length_le (by rw [HSZ.out]; exact Nat.le_refl _)] at this
      have hF : shapeB s.data.toList = decide ((s.size : Int) ≤ 100) := by
        unfold shapeB
        rw [hA, Bool.true_and, HSZ.out]
        by_cases h : s.size ≤ 100
        · rw [decide_eq_true h, decide_eq_true (by omega)]
        · rw [decide_eq_false h, decide_eq_false (by omega)]
      have HF := Lib.hid hF
      clear hF hA hall
      go_wp2_with fail
      go_ret
      exact ⟨by rw [HF.out]; rfl, rfl⟩

theorem wd_letter {c : UInt8} (h : letter c = true) (h2 : c ≠ 116) : rwd c = wd c ∧ wd c ≤ 8 := by
  have h5 : c = 97 ∨ c = 98 ∨ c = 99 ∨ c = 100 ∨ c = 116 := by simpa only [letter, Bool.or_eq_true, beq_iff_eq, or_assoc] using h
  rcases h5 with rfl | rfl | rfl | rfl | rfl
  all_goals first | exact ⟨rfl, by decide⟩ | exact absurd rfl h2

theorem div_pow (n j : Nat) : n / 256 ^ j / 256 = n / 256 ^ (j + 1) := by rw [Nat.div_div_eq_div_mul, Nat.pow_succ]

set_option maxHeartbeats 1000000 in
theorem rfits_any (c : UInt8) (n : Nat) (s : ByteArray) (w : World) (hc : letter c = true) (hn : n < 18446744073709551616) (hs : s.size ≤ maxLen) :
    Calls Tryd.prog 60 #[.int .u8 c.toNat, .agg #[.int .u64 n, .string s]] w fun e w' => e = .returned (.bool (fits c ⟨n, s⟩)) ∧ Below w.heap.size w w' := by
  unfold maxLen at hs
  by_cases h6 : c = 116
  · subst h6
    have hf : fits 116 ⟨n, s⟩ = (decide (n = 0) && decide (s.size ≤ 2000)) := by unfold fits; rw [if_pos rfl]
    rw [hf]
    clear hf
    by_cases h0 : n = 0
    · subst h0
      by_cases h2 : s.size ≤ 2000
      · have h2I : (s.size : Int) ≤ 2000 := by omega
        rw [decide_eq_true h2]
        go_enter Tryd.func60, Tryd.ntmps60
        go_wp2
        go_ret
        exact ⟨by simp [h2I], (Below.refl _ _).alloc (Nat.le_refl _) _⟩
      · have h2I : ¬ (s.size : Int) ≤ 2000 := by omega
        rw [decide_eq_false h2]
        go_enter Tryd.func60, Tryd.ntmps60
        go_wp2
        go_ret
        exact ⟨by simp [h2I], (Below.refl _ _).alloc (Nat.le_refl _) _⟩
    · have h0I : ((n : Int) == 0) = false := by simp; omega
      rw [decide_eq_false h0]
      go_enter Tryd.func60, Tryd.ntmps60
      go_wp2
      go_ret
      exact ⟨by simp, (Below.refl _ _).alloc (Nat.le_refl _) _⟩
  · have h6I : ((c.toNat : Int) == 116) = false := toNat_ne (n := 116) (by decide) h6
    obtain ⟨hw1, hw2⟩ := wd_letter hc h6
    have HR := rwidth_any c
    rw [hw1] at HR
    have hf : fits c ⟨n, s⟩ = (decide (s.size = 0) && decide (n < 256 ^ wd c)) := by unfold fits; rw [if_neg h6]
    rw [hf]
    clear hf hw1
    have HW8 := Lib.hid hw2
    generalize wd c = wd_ at *
    generalize hRR : (decide (s.size = 0) && decide (n < 256 ^ wd_)) = R
    have HRR := Lib.hid hRR
    clear hRR
    go_enter Tryd.func60, Tryd.ntmps60
    go_wp2_with (go_at_call 62; refine (HR _).mono ?_; rintro e w' ⟨rfl, rfl⟩)
    go_loop [5, 6] (fun q i => ∃ j : Nat, j ≤ wd_ ∧ i = .int .i64 j ∧ q = .int .u64 ((n / 256 ^ j : Nat) : Int)) (fun _ i => wd_ - (intOf i).toNat)
    case atStart => exact ⟨0, Nat.zero_le _, rfl, by simp⟩
    case round =>
      obtain ⟨j, hj, rfl, rfl⟩ := hrel
      by_cases hjl : j < wd_
      · have hjI : (j : Int) < (wd_ : Int) := by omega
        have hlt : n / 256 ^ j < 18446744073709551616 := Nat.lt_of_le_of_lt (Nat.div_le_self _ _) hn
        have hdp := Lib.hid (div_pow n j)
        generalize n / 256 ^ j = q at *
        go_wp2_with (go_at_call 62; refine (HR _).mono ?_; rintro e w' ⟨rfl, rfl⟩)
        go_round
        case rel => exact ⟨j + 1, by omega, by go_num, by rw [← hdp.out]; simp⟩
        case measure => simp [intOf]; omega
      · obtain rfl : j = wd_ := by omega
        have hz : n < 256 ^ j ↔ n / 256 ^ j = 0 := by
          rw [Nat.div_eq_zero_iff]
          have : 0 < 256 ^ j := Nat.pow_pos (by decide)
          omega
        by_cases hnl : n < 256 ^ j
        · have hq := hz.mp hnl
          have HR1 : Hid (decide (n < 256 ^ j) = true) := Lib.hid (decide_eq_true hnl)
          rw [hq]
          clear hq hz hnl
          by_cases hs0 : s.size = 0
          · obtain rfl := size_noS hs0
            clear hs0
            unfold noS at *
            go_wp2_with (go_at_call 62; refine (HR _).mono ?_; rintro e w' ⟨rfl, rfl⟩)
            go_ret
            exact ⟨by rw [← HRR.out, HR1.out]; rfl, (Below.refl _ _).alloc (Nat.le_refl _) _⟩
          · have HR2 : Hid (decide (s.size = 0) = false) := Lib.hid (decide_eq_false hs0)
            have hte := noS_empty hs0
            clear hs0
            go_wp2_with (go_at_call 62; refine (HR _).mono ?_; rintro e w' ⟨rfl, rfl⟩)
            go_ret
            exact ⟨by rw [← HRR.out, HR2.out]; simp, (Below.refl _ _).alloc (Nat.le_refl _) _⟩
        · have hq : ((((n / 256 ^ j : Nat) : Int)) == 0) = false := by
            have := fun h => hnl (hz.mpr h)
            simp only [beq_eq_false_iff_ne, ne_eq]
            omega
          have HR1 : Hid (decide (n < 256 ^ j) = false) := Lib.hid (decide_eq_false hnl)
          clear hz hnl
          generalize n / 256 ^ j = q at *
          go_wp2_with (go_at_call 62; refine (HR _).mono ?_; rintro e w' ⟨rfl, rfl⟩)
          go_ret
          exact ⟨by rw [← HRR.out, HR1.out, Bool.and_false]; simp, (Below.refl _ _).alloc (Nat.le_refl _) _⟩

def RelR (w : World) (n wd : Nat) (b i : Value) (wr : World) : Prop :=
  ∃ (m : Nat) (done : List UInt8), m ≤ wd ∧ i = .int .i64 ((m : Int) - 1) ∧ Hid (done ++ be m n = be wd n) ∧ OwnB wr w.heap.size b done ∧ Below w.heap.size w wr ∧ done.length ≤ 8

theorem byte_mod (n m : Nat) : ((UInt8.ofNat (n / 256 ^ m)).toNat : Int) = ((n / 256 ^ m : Nat) : Int) % 256 := by
  rw [UInt8.toNat_ofNat', Int.natCast_emod]
  rfl
theorem own_lo {w : World} {B : Nat} {v : Value} {l : List UInt8} (h : OwnB w B v l) : ∀ j, v.ownBlock = some j → B ≤ j := fun j hj => (h.lt j hj).1

set_option maxHeartbeats 1000000 in
theorem rnumber_any (w : World) (n wd : Nat) (ni wi : Int) (hni : ni = n) (hwi : wi = wd) (hn : n < 18446744073709551616) (hw : wd ≤ 8) :
    Calls Tryd.prog 61 #[.int .u64 ni, .int .i64 wi] w fun e w' => ∃ v, e = .returned v ∧ OwnB w' w.heap.size v (be wd n) ∧ Below w.heap.size w w' := by
  subst hni hwi
  obtain ⟨i0, hi, hz0, hz1, hz2⟩ := info_parts info5
  have h8 : (wd : Int) ≤ 8 := by omega
  go_enter Tryd.func61, Tryd.ntmps61
  go_wp2
  go_loopw [5, 6] (fun b i wr => RelR w n wd b i wr) (fun _ i _ => (intOf i + 1).toNat)
  case atStart => exact ⟨wd, [], Nat.le_refl _, rfl, Lib.hid rfl, World.ownsRow_nil w _ 5 1, Below.refl _ _, by simp⟩
  case round =>
    obtain ⟨wo, h_wo⟩ : ∃ v : World, v = wr := ⟨_, rfl⟩; subst h_wo
    obtain ⟨m, done, hm, rfl, HD, hob, hB, hdl⟩ := hrel
    cases m with
    | zero =>
      go_wp2
      go_ret
      have hd : done = be wd n := by rw [← HD.out]; simp [be]
      rw [hd] at hob
      exact ⟨_, rfl, hob, hB⟩
    | succ m =>
      have hdl2 : done.length + 1 ≤ 8 := by
        have h1 := congrArg List.length HD.out
        rw [List.length_append, length_be, length_be] at h1
        omega
      have hm8 : (m : Int) ≤ 8 := by omega
      go_wp2
      go_loopw [7, 8] (fun q i wx => ∃ j : Nat, j ≤ m ∧ i = .int .i64 j ∧ q = .int .u64 ((n / 256 ^ j : Nat) : Int) ∧ wx = wo) (fun _ i _ => m - (intOf i).toNat)
      case atStart => exact ⟨0, Nat.zero_le _, rfl, by simp, rfl⟩
      case round =>
        obtain ⟨j, hj, rfl, rfl, hwx⟩ := hrel
        subst hwx
        have hlt : n / 256 ^ j < 18446744073709551616 := Nat.lt_of_le_of_lt (Nat.div_le_self _ _) hn
        by_cases hjl : j < m
        · have hjI : (j : Int) < (m : Int) := by omega
          have hdp := Lib.hid (div_pow n j)
          generalize n / 256 ^ j = q at *
          go_wp2
          go_roundw
          case rel => exact ⟨j + 1, by omega, by go_num, by rw [← hdp.out]; simp, by first | rfl | trivial⟩
          case measure => simp [intOf]; omega
        · obtain rfl : j = m := by omega
          have hbm := Lib.hid (byte_mod n j)
          have HD2 : Hid ((done ++ [UInt8.ofNat (n / 256 ^ j)]) ++ be j n = be wd n) := Lib.hid (by rw [← HD.out, be]; simp)
          generalize hbq : UInt8.ofNat (n / 256 ^ j) = c at hbm HD2
          clear hbq
          generalize n / 256 ^ j = q at *
          go_wp2_with (first | (at_builtin; refine wpList_append_own_at _ rfl _ _ 81 rfl w.heap.size 5 i0 (.int .u8 0) 1 1 Tryd.underlying81 hi hz0 hz1 hz2 rfl (by decide) _ _ _ rfl (World.ownsRow.alloc hob _) ⟨wr.heap.size, 0, none⟩ 1 1 [.int .u8 ((q : Int) % 256)] rfl rfl (cell_one_new _ _ _) (ints_oneCell .u8 [_]) (by unfold maxLen; omega) (by omega) (by have := hB.size; simp <;> omega) ?_; intro v' w1 hown' hgrow hnil hloc') | go_in)
          go_roundw
          case rel =>
            refine ⟨j, done ++ [c], by omega, by first | rfl | go_num, HD2, ?_, ?_, by simp <;> omega⟩
            · rw [OwnB, bcells_snoc, hbm.out, List.length_append]
              exact hown'
            · exact (hB.alloc hB.size _).grown hgrow (by have := hB.size; simp <;> omega) (own_lo hob)
          case measure => simp [intOf] <;> omega
end Go.Proofs.YtajnaiofagppeaaDoor.CodeMem
