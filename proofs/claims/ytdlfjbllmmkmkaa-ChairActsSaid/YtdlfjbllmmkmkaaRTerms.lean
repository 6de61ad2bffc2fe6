/- What the reference's terms answer. -/
import Derived.Test.YtdlfjbllmmkmkaaTerms
namespace Go.Proofs.Ytdlfjbllmmkmkaa.Chair
open Go.RowKit Flat ChairSpec Go.Proofs.YtdlfjbllmmkmkaaW.PrintLast
set_option linter.unusedSimpArgs false
set_option linter.unusedVariables false
set_option maxRecDepth 100000
set_option maxHeartbeats 2000000 in
theorem rright_te (t : Te) (w : World) : Calls Try.prog 60 #[.agg #[.int .i64 t.dl, .int .i64 t.span, .int .i64 t.used, .int .i64 t.cap]] w fun r w' => r = .returned (.bool (rightTe t)) ∧ Below w.heap.size w w' := by
  by_cases hb : baseTe t = true
  · have hl := hb
    simp only [baseTe, decide_eq_true_eq] at hl
    have HR : Hid (rightTe t = (decide (t.span ≤ t.dl) && decide (t.dl ≤ 1099511627776 - leftTe t))) := Lib.hid (by rw [rightTe, hb, Bool.true_and])
    obtain ⟨hl0, hl1⟩ := left_bounds hb
    have e1 : wrap64 (t.cap - t.used) = t.cap - t.used := by unfold wrap64; omega
    have e2 : wrap64 ((t.cap - t.used) * t.span) = leftTe t := by
      have : (t.cap - t.used) * t.span = leftTe t := rfl
      rw [this]; unfold wrap64; omega
    have n1 : ¬ t.span < 1 := by omega
    have n2 : ¬ (1048576 : Int) < t.span := by omega
    have n3 : ¬ t.cap < 0 := by omega
    have n4 : ¬ (100 : Int) < t.cap := by omega
    have n5 : ¬ t.used < 0 := by omega
    have n6 : ¬ t.cap < t.used := by omega
    clear hl hb
    by_cases hd : t.span ≤ t.dl
    · by_cases hd2 : t.dl ≤ 1099511627776
      · have e3 : wrap64 (t.dl + leftTe t) = t.dl + leftTe t := by unfold wrap64; omega
        go_enter Try.func60, Try.ntmps60
        go_wp2_with fail
        go_ret
        refine ⟨?_, by repeat (first | (with_reducible exact Below.refl _ _) | (with_reducible assumption) | (with_reducible refine bw_alloc ?_) | (with_reducible refine bw_drew ?_) | (with_reducible refine bw_drewN ?_) | (with_reducible refine bw_set ?_ (by first | (simp; done) | (dsimp only; omega))) | (with_reducible refine bw_via (by assumption) ?_))⟩
        rw [HR.out, decide_eq_true hd, Bool.true_and]
        rw [show decide (t.dl ≤ 1099511627776 - leftTe t) = decide (t.dl + leftTe t ≤ 1099511627776) from by simp only [decide_eq_decide]; omega]
        first | rfl | simp [e1, e2, e3]
      · go_enter Try.func60, Try.ntmps60
        go_wp2_with fail
        go_ret
        refine ⟨?_, by repeat (first | (with_reducible exact Below.refl _ _) | (with_reducible assumption) | (with_reducible refine bw_alloc ?_) | (with_reducible refine bw_drew ?_) | (with_reducible refine bw_drewN ?_) | (with_reducible refine bw_set ?_ (by first | (simp; done) | (dsimp only; omega))) | (with_reducible refine bw_via (by assumption) ?_))⟩
        rw [HR.out, decide_eq_false (show ¬ t.dl ≤ 1099511627776 - leftTe t by omega), Bool.and_false]
        rfl
    · go_enter Try.func60, Try.ntmps60
      go_wp2_with fail
      go_ret
      refine ⟨?_, by repeat (first | (with_reducible exact Below.refl _ _) | (with_reducible assumption) | (with_reducible refine bw_alloc ?_) | (with_reducible refine bw_drew ?_) | (with_reducible refine bw_drewN ?_) | (with_reducible refine bw_set ?_ (by first | (simp; done) | (dsimp only; omega))) | (with_reducible refine bw_via (by assumption) ?_))⟩
      rw [HR.out, decide_eq_false (show ¬ t.span ≤ t.dl by omega), Bool.false_and]
      rfl
  · have HR : Hid (rightTe t = false) := Lib.hid (by rw [rightTe, Bool.eq_false_iff.2 hb, Bool.false_and, Bool.false_and])
    have hw := base_ways t hb
    clear hb
    rcases hw with h | ⟨h1, h⟩ | ⟨h1, h2, h⟩ | ⟨h1, h2, h3, h⟩ | ⟨h1, h2, h3, h4, h⟩ | ⟨h1, h2, h3, h4, h5, h⟩
    all_goals
      go_enter Try.func60, Try.ntmps60
      go_wp2_with fail
      go_ret
      refine ⟨by rw [HR.out]; rfl, ?_⟩
      repeat (first | (with_reducible exact Below.refl _ _) | (with_reducible assumption) | (with_reducible refine bw_alloc ?_) | (with_reducible refine bw_drew ?_) | (with_reducible refine bw_drewN ?_) | (with_reducible refine bw_set ?_ (by first | (simp; done) | (dsimp only; omega))) | (with_reducible refine bw_via (by assumption) ?_))
set_option maxHeartbeats 1000000 in
theorem rover_te (t : Te) (now : Int) (w : World) : Calls Try.prog 48 #[.agg #[.int .i64 t.dl, .int .i64 t.span, .int .i64 t.used, .int .i64 t.cap], .int .i64 now] w fun r w' => r = .returned (.bool (overTe t now)) ∧ Below w.heap.size w w' := by
  have HR := Lib.hid (fun W => rright_te t W)
  cases hr : rightTe t
  all_goals
    have HO : Hid (overTe t now = (rightTe t && decide (t.dl ≤ now))) := Lib.hid rfl
    rw [hr] at HO
    simp only [hr] at HR
    clear hr
    go_enter Try.func48, Try.ntmps48
    go_wp2_with fail
    generalize hv1 : World.alloc w _ = v1
    obtain ⟨hb1, hz1, hc1⟩ := alloc_facts hv1
    have q0 := hc1 0
    have q1 := hc1 1
    have q2 := hc1 2
    have q3 := hc1 3
    have HB := Lib.hid hb1
    clear hv1 hc1 hb1
    generalize hgb : w.heap.size = gb at *
    refine (HR.out _).mono ?_
    rintro r v2 ⟨rfl, hb2⟩
    have p0 := (hb2.cell (p := ⟨gb, 0, none⟩) hz1).trans q0
    have HB2 := Lib.hid (HB.out.trans (hb2.mono (Nat.le_of_lt hz1)))
    clear hb2 q0 q1 q2 q3
    go_wp2_with fail
    go_ret
    rw [HO.out]
    exact ⟨rfl, by rw [hgb]; exact HB2.out⟩
end Go.Proofs.Ytdlfjbllmmkmkaa.Chair
