/- What tally.Outcome answers. -/
import Derived.Test.YtdlfjbllmmkmkaaTallyPut
namespace Go.Proofs.Ytdlfjbllmmkmkaa.Chair
open Go.RowKit Flat ChairSpec Go.Proofs.YtdlfjbllmmkmkaaW.PrintLast
set_option linter.unusedSimpArgs false
set_option linter.unusedVariables false
set_option maxRecDepth 100000
/-- Whether one of the first k has still to vote. -/
def owes (t : Ta) (k : Nat) : Bool := (List.range k).any (fun i => t.who i && decide (t.votes i = 0))
theorem owes_succ (t : Ta) (k : Nat) : owes t (k + 1) = (owes t k || (t.who k && decide (t.votes k = 0))) := by
  unfold owes
  rw [List.range_succ, List.any_append, List.any_cons, List.any_nil, Bool.or_false]
theorem one_block {w v1 : World} {t : Ta} {t1 : TypeId} (h : w.alloc (.cells (tc t).toArray t1) = v1) : Below w.heap.size w v1 ∧ w.heap.size < v1.heap.size ∧ TaAt v1 w.heap.size 0 t := by
  obtain ⟨h1, h2, h3⟩ := alloc_facts h
  exact ⟨h1, h2, fun j v hv => by rw [Nat.zero_add, h3 j]; simpa using hv⟩
theorem one_lo (t : Ta) (w : World) (t1 : TypeId) : World.rangeAt (w.alloc (.cells (tc t).toArray t1)) w.heap.size 0 (tc t) := (one_block (t := t) (t1 := t1) rfl).2.2
set_option maxHeartbeats 8000000 in
theorem out_ta (t : Ta) (w : World) : Calls Try.prog 45 #[.agg (tc t).toArray] w fun r w' => r = .returned (.int .i64 (outT t)) ∧ Below w.heap.size w w' := by
  have HL : Hid ((tc t).toArray.size = 24) := Lib.hid (by simp [tc_len])
  have HR := Lib.hid (fun W => right_ta t W)
  have HT := Lib.hid (one_lo t w 40)
  have hlen := HL.out
  cases hr : rightT t
  · have HO : Hid (outT t = 0) := Lib.hid (by rw [outT, if_pos hr])
    simp only [hr] at HR
    rw [HO.out]
    clear hr
    go_enter Try.func45, Try.ntmps45
    go_wp2_with (refine wpList_load_mid rfl 40 _ rfl (w.heap.size) 0 rfl (tc t) _ (HT.out) Try.underlying40 rfl infoTa ?_)
    generalize hv1 : World.alloc w _ = v1
    refine (HR.out _).mono ?_
    rintro r v2 ⟨rfl, hb2⟩
    obtain ⟨hb1, hz1, _⟩ := one_block hv1
    have HB2 := Lib.hid (hb1.trans (hb2.mono (Nat.le_of_lt hz1)))
    clear hv1 hb2 hb1 hlen
    go_wp2_with fail
    go_ret
    exact ⟨rfl, HB2.out⟩
  · have HO : Hid (outT t = if (List.range 8).any (fun i => decide (t.votes i = 2)) then 2 else if owes t 8 then 0 else 1) := Lib.hid (by rw [outT, if_neg (by rw [hr]; decide)]; rfl)
    simp only [hr] at HR
    clear hr
    go_enter Try.func45, Try.ntmps45
    go_wp2_with (refine wpList_load_mid rfl 40 _ rfl (w.heap.size) 0 rfl (tc t) _ (HT.out) Try.underlying40 rfl infoTa ?_)
    generalize hv1 : World.alloc w _ = v1
    refine (HR.out _).mono ?_
    rintro r v2 ⟨rfl, hb2⟩
    obtain ⟨hb1, hz1, hT1⟩ := one_block hv1
    have HB2 := Lib.hid (hb1.trans (hb2.mono (Nat.le_of_lt hz1)))
    have HT2 := Lib.hid (hT1.below hb2)
    have hz2 : w.heap.size < v2.heap.size := Nat.lt_of_lt_of_le hz1 hb2.size
    have q0 := HT2.out.who (i := 0) (by decide)
    have q1 := HT2.out.who (i := 1) (by decide)
    have q2 := HT2.out.who (i := 2) (by decide)
    have q3 := HT2.out.who (i := 3) (by decide)
    have q4 := HT2.out.who (i := 4) (by decide)
    have q5 := HT2.out.who (i := 5) (by decide)
    have q6 := HT2.out.who (i := 6) (by decide)
    have q7 := HT2.out.who (i := 7) (by decide)
    simp only [Nat.zero_add] at q0 q1 q2 q3 q4 q5 q6 q7
    clear hv1 hb2 hb1 hT1 hlen HT
    go_wp2_with fail
    clear q0 q1 q2 q3 q4 q5 q6 q7
    generalize hgb : w.heap.size = gb at *
    go_loopw [3, 11] (fun o i wr => ∃ k : Nat, k ≤ 8 ∧ i = .int .i64 (k : Int) ∧ o = .int .i64 (if owes t k then 0 else 1) ∧ (∀ j, j < k → t.votes j ≠ 2) ∧ wr = v2) (fun _ i _ => 8 - (intOf i).toNat)
    case atStart => exact ⟨0, by omega, rfl, rfl, fun j hj => absurd hj (by omega), rfl⟩
    case round =>
      obtain ⟨k, hk, rfl, rfl, hgood, rfl⟩ := hrel
      have HG := Lib.hid hgood
      clear hgood
      generalize how : (if owes t k then (0 : Int) else 1) = ow
      have HOW := Lib.hid how
      clear how
      by_cases hk8 : k = 8
      · have hkI : ¬ (k : Int) < 8 := by omega
        have hO : outT t = ow := by
          rw [HO.out, if_neg, ← HOW.out, hk8]
          rw [List.any_eq_true]
          rintro ⟨i, hi, h2⟩
          exact HG.out i (by have := List.mem_range.1 hi; omega) (by simpa using h2)
        have HOE := Lib.hid hO
        clear hO
        go_wp2_with fail
        go_ret
        rw [HOE.out]
        exact ⟨rfl, by first | exact HB2.out | (rw [hgb]; exact HB2.out)⟩
      · have hk7 : k < 8 := by omega
        have hkI : (k : Int) < 8 := by omega
        have hk0 : (0 : Int) ≤ (k : Int) := by omega
        have hix := who_index t.who k hk7 wr
        have q8 := HT2.out.vote hk7
        simp only [Nat.zero_add] at q8
        have HS := Lib.hid (owes_succ t k)
        by_cases h2 : t.votes k = 2
        · have hO : outT t = 2 := by
            rw [HO.out, if_pos]
            exact List.any_eq_true.2 ⟨k, List.mem_range.2 hk7, by simpa using h2⟩
          have HOE := Lib.hid hO
          rw [h2] at q8
          clear h2 hO
          go_wp2_with fail
          go_ret
          rw [HOE.out]
          exact ⟨rfl, by first | exact HB2.out | (rw [hgb]; exact HB2.out)⟩
        · have hg2 : ∀ j, j < k + 1 → t.votes j ≠ 2 := fun j hj => by
            by_cases e : j = k
            · rw [e]; exact h2
            · exact HG.out j (by omega)
          have HG2 := Lib.hid hg2
          have hb2 : (t.votes k == 2) = false := beq_eq_false_iff_ne.2 h2
          clear hg2
          cases hw : t.who k
          · have hS : (if owes t (k + 1) then (0 : Int) else 1) = ow := by rw [HS.out, hw, Bool.false_and, Bool.or_false]; exact HOW.out
            have HS2 := Lib.hid hS
            rw [hw] at hix
            clear hS HS hw
            go_wp2_with fail
            refine ⟨⟨k + 1, by omega, by go_num, by rw [HS2.out], HG2.out, by trivial⟩, by simp [intOf]; omega⟩
          · rw [hw] at hix
            by_cases h0 : t.votes k = 0
            · have hS : (if owes t (k + 1) then (0 : Int) else 1) = 0 := by rw [HS.out, hw, h0]; simp
              have HS2 := Lib.hid hS
              have hb0 : (t.votes k == 0) = true := by rw [h0]; rfl
              clear hS HS hw h0
              go_wp2_with fail
              refine ⟨⟨k + 1, by omega, by go_num, by rw [HS2.out], HG2.out, by trivial⟩, by simp [intOf]; omega⟩
            · have hS : (if owes t (k + 1) then (0 : Int) else 1) = ow := by rw [HS.out, hw, decide_eq_false h0, Bool.and_false, Bool.or_false]; exact HOW.out
              have HS2 := Lib.hid hS
              have hb0 : (t.votes k == 0) = false := beq_eq_false_iff_ne.2 h0
              clear hS HS hw
              go_wp2_with fail
              refine ⟨⟨k + 1, by omega, by go_num, by rw [HS2.out], HG2.out, by trivial⟩, by simp [intOf]; omega⟩
end Go.Proofs.Ytdlfjbllmmkmkaa.Chair
