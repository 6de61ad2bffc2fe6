/- What the reference's tally.Outcome answers. -/
import Derived.Test.YtdlfjbllmmkmkaaRTallyHear
import Derived.Test.YtdlfjbllmmkmkaaTallyOut
namespace Go.Proofs.Ytdlfjbllmmkmkaa.Chair
open Go.RowKit Flat ChairSpec Go.Proofs.YtdlfjbllmmkmkaaW.PrintLast
set_option linter.unusedSimpArgs false
set_option linter.unusedVariables false
set_option maxRecDepth 100000
theorem right_good {t : Ta} (h : rightT t = true) {k : Nat} (hk : k < 8) : badT t k = false := by
  rw [rightT, Bool.and_eq_true, List.all_eq_true] at h
  have := h.1 k (List.mem_range.2 hk)
  simpa using this
set_option maxHeartbeats 8000000 in
theorem rout_ta (t : Ta) (w : World) : Calls Try.prog 55 #[.agg (tc t).toArray] w fun r w' => r = .returned (.int .i64 (outT t)) ∧ Below w.heap.size w w' := by
  have HL : Hid ((tc t).toArray.size = 24) := Lib.hid (by simp [tc_len])
  have HR := Lib.hid (fun W => rright_ta t W)
  have HT := Lib.hid (one_lo t w 72)
  have hlen := HL.out
  cases hr : rightT t
  · have HO : Hid (outT t = 0) := Lib.hid (by rw [outT, if_pos hr])
    simp only [hr] at HR
    rw [HO.out]
    clear hr
    go_enter Try.func55, Try.ntmps55
    go_wp2_with (refine wpList_load_mid rfl 72 _ rfl (w.heap.size) 0 rfl (tc t) _ (HT.out) Try.underlying72 rfl infoRTa ?_)
    generalize hv1 : World.alloc w _ = v1
    refine (HR.out _).mono ?_
    rintro r v2 ⟨rfl, hb2⟩
    obtain ⟨hb1, hz1, _⟩ := one_block hv1
    have HB2 := Lib.hid (hb1.trans (hb2.mono (Nat.le_of_lt hz1)))
    clear hv1 hb2 hb1 hlen
    go_wp2_with fail
    go_ret
    exact ⟨rfl, HB2.out⟩
  · have HO : Hid (outT t = if (List.range 8).any (fun i => decide (t.votes i = 2)) then 2 else if owes t 8 then 0 else 1) := Lib.hid (by rw [outT, if_neg (by rw [hr]; decide)]; rfl)
    have HGW := Lib.hid (fun k hk => good_ways t k (right_good hr hk))
    simp only [hr] at HR
    clear hr
    go_enter Try.func55, Try.ntmps55
    go_wp2_with (refine wpList_load_mid rfl 72 _ rfl (w.heap.size) 0 rfl (tc t) _ (HT.out) Try.underlying72 rfl infoRTa ?_)
    generalize hv1 : World.alloc w _ = v1
    refine (HR.out _).mono ?_
    rintro r v2 ⟨rfl, hb2⟩
    obtain ⟨hb1, hz1, hT1⟩ := one_block hv1
    have HB2 := Lib.hid (hb1.trans (hb2.mono (Nat.le_of_lt hz1)))
    have HT2 := Lib.hid (hT1.below hb2)
    clear hv1 hb2 hb1 hT1 hlen HT hz1
    go_wp2_with fail
    generalize hgb : w.heap.size = gb at *
    go_loopw [3, 4] (fun s i wr => ∃ k : Nat, k ≤ 8 ∧ i = .int .i64 (k : Int) ∧ s = .bool (!(owes t k)) ∧ (∀ j, j < k → t.votes j ≠ 2) ∧ wr = v2) (fun _ i _ => 8 - (intOf i).toNat)
    case atStart => exact ⟨0, by omega, rfl, rfl, fun j hj => absurd hj (by omega), rfl⟩
    case round =>
      obtain ⟨k, hk, rfl, rfl, hgood, rfl⟩ := hrel
      have HG := Lib.hid hgood
      clear hgood
      by_cases hk8 : k = 8
      · have hkI : ¬ (k : Int) < 8 := by omega
        have hO : outT t = if owes t k then 0 else 1 := by
          rw [HO.out, if_neg, hk8]
          rw [List.any_eq_true]
          rintro ⟨i, hi, h2⟩
          exact HG.out i (by have := List.mem_range.1 hi; omega) (by simpa using h2)
        have HOE := Lib.hid hO
        clear hO
        generalize owes t k = ow at *
        cases ow
        all_goals
          go_wp2_with fail
          go_ret
          rw [HOE.out]
          exact ⟨rfl, by first | exact HB2.out | (rw [hgb]; exact HB2.out)⟩
      · have hk7 : k < 8 := by omega
        have hkI : (k : Int) < 8 := by omega
        have hk0 : (0 : Int) ≤ (k : Int) := by omega
        have q8 := HT2.out.vote hk7
        have qw := HT2.out.who hk7
        have hlt := Flat.cell_lt q8
        simp only [Nat.zero_add] at q8 qw
        have HS := Lib.hid (owes_succ t k)
        have hgw := HGW.out k hk7
        by_cases h2 : t.votes k = 2
        · have hO : outT t = 2 := by
            rw [HO.out, if_pos (List.any_eq_true.2 ⟨k, List.mem_range.2 hk7, by simp [h2]⟩)]
          rw [h2] at q8
          have HOE := Lib.hid hO
          clear hO hgw HS h2
          generalize owes t k = ow at *
          generalize t.who k = is at *
          go_wp2_with fail
          go_ret
          rw [HOE.out]
          exact ⟨rfl, by first | exact HB2.out | (rw [hgb]; exact HB2.out)⟩
        · have HG2 := Lib.hid (fun j (hj : j < k + 1) => show t.votes j ≠ 2 from by
            by_cases e : j = k
            · rw [e]; exact h2
            · exact HG.out j (by omega))
          have hv : (t.who k = false ∧ t.votes k = 0) ∨ (t.who k = true ∧ t.votes k = 0) ∨ (t.who k = true ∧ t.votes k = 1) := by
            rcases hgw with ⟨a1, a2, _⟩ | ⟨a1, a2, _⟩ | ⟨a1, a2, a3, _⟩
            · exact .inl ⟨a1, a2⟩
            · exact .inr (.inl ⟨a1, a2⟩)
            · cases hq : t.who k with
              | false => exact absurd a1 (by rw [hq]; decide)
              | true =>
                by_cases h0 : t.votes k = 0
                · exact .inr (.inl ⟨rfl, h0⟩)
                · exact .inr (.inr ⟨rfl, by omega⟩)
          generalize owes t k = ow at *
          rcases hv with ⟨a1, a2⟩ | ⟨a1, a2⟩ | ⟨a1, a2⟩
          all_goals
            rw [a1] at qw HS
            rw [a2] at q8 HS
            clear a1 a2 hgw h2
            cases ow
            all_goals
              go_wp2_with fail
              refine ⟨⟨k + 1, by omega, by go_num, by rw [HS.out] <;> rfl, HG2.out, by first | rfl | trivial⟩, by simp [intOf]; omega⟩
end Go.Proofs.Ytdlfjbllmmkmkaa.Chair
