/- What the program's terms answer. -/
import Derived.Test.YtdlfjbllmmkmkaaChairSpec
import Derived.Test.YtdlfjbllmmkmkaaFlat
import Derived.Test.YtdlfjbllmmkmkaaWLast
import Derived.LoopTactic
import Derived.Deep.LoopGhost
import Derived.Deep.DeepCutAuto
import Derived.RegionTactic
import Derived.Lib.Hide
namespace Go.Proofs.Ytdlfjbllmmkmkaa.Chair
open Go.RowKit Flat ChairSpec Go.Proofs.YtdlfjbllmmkmkaaW.PrintLast
set_option linter.unusedSimpArgs false
set_option linter.unusedVariables false
set_option maxRecDepth 100000
set_option maxHeartbeats 1000000 in
theorem left_any (t : Te) (h : baseTe t = true) (w : World) : Calls Try.prog 31 #[.agg #[.int .i64 t.dl, .int .i64 t.span, .int .i64 t.used, .int .i64 t.cap]] w fun r w' => r = .returned (.int .i64 (leftTe t)) ∧ Below w.heap.size w w' := by
  obtain ⟨hl0, hl1⟩ := left_bounds h
  have hl := h
  simp only [baseTe, decide_eq_true_eq] at hl
  obtain ⟨h1, h2, h3, h4, h5, h6⟩ := hl
  have e1 : wrap64 (t.cap - t.used) = t.cap - t.used := by unfold wrap64; omega
  have e2 : wrap64 ((t.cap - t.used) * t.span) = leftTe t := by
    have : (t.cap - t.used) * t.span = leftTe t := rfl
    rw [this]; unfold wrap64; omega
  clear h hl0 hl1
  go_enter Try.func31, Try.ntmps31
  go_wp2_with fail
  go_ret
  refine ⟨by simp only [e2]; rfl, ?_⟩
  repeat (first | (with_reducible exact Below.refl _ _) | (with_reducible assumption) | (with_reducible refine bw_alloc ?_) | (with_reducible refine bw_drew ?_) | (with_reducible refine bw_drewN ?_) | (with_reducible refine bw_set ?_ (by first | (simp; done) | (dsimp only; omega))) | (with_reducible refine bw_via (by assumption) ?_))
theorem base_ways (t : Te) (h : ¬ baseTe t = true) : t.span < 1 ∨ (¬ t.span < 1 ∧ 1048576 < t.span) ∨ (¬ t.span < 1 ∧ ¬ 1048576 < t.span ∧ t.cap < 0) ∨ (¬ t.span < 1 ∧ ¬ 1048576 < t.span ∧ ¬ t.cap < 0 ∧ 100 < t.cap) ∨
    (¬ t.span < 1 ∧ ¬ 1048576 < t.span ∧ ¬ t.cap < 0 ∧ ¬ 100 < t.cap ∧ t.used < 0) ∨ (¬ t.span < 1 ∧ ¬ 1048576 < t.span ∧ ¬ t.cap < 0 ∧ ¬ 100 < t.cap ∧ ¬ t.used < 0 ∧ t.cap < t.used) := by
  simp only [baseTe, decide_eq_true_eq] at h
  omega
set_option maxHeartbeats 2000000 in
theorem right_te (t : Te) (w : World) : Calls Try.prog 26 #[.agg #[.int .i64 t.dl, .int .i64 t.span, .int .i64 t.used, .int .i64 t.cap]] w fun r w' => r = .returned (.bool (rightTe t)) ∧ Below w.heap.size w w' := by
  by_cases hb : baseTe t = true
  · have hl := hb
    simp only [baseTe, decide_eq_true_eq] at hl
    have HR : Hid (rightTe t = (decide (t.span ≤ t.dl) && decide (t.dl ≤ 1099511627776 - leftTe t))) := Lib.hid (by rw [rightTe, hb, Bool.true_and])
    have HL := Lib.hid (fun W => left_any t hb W)
    obtain ⟨hl0, hl1⟩ := left_bounds hb
    have e2 : wrap64 (1099511627776 - leftTe t) = 1099511627776 - leftTe t := by unfold wrap64; omega
    have n1 : ¬ t.span < 1 := by omega
    have n2 : ¬ (1048576 : Int) < t.span := by omega
    have n3 : ¬ t.cap < 0 := by omega
    have n4 : ¬ (100 : Int) < t.cap := by omega
    have n5 : ¬ t.used < 0 := by omega
    have n6 : ¬ t.cap < t.used := by omega
    clear hl hb
    by_cases hd : t.span ≤ t.dl
    · go_enter Try.func26, Try.ntmps26
      go_wp2_with fail
      generalize hv1 : World.alloc w _ = v1
      obtain ⟨hb1, hz1, hc1⟩ := alloc_facts hv1
      have q0 := hc1 0
      have q1 := hc1 1
      have q2 := hc1 2
      have q3 := hc1 3
      have HB := Lib.hid hb1
      clear hv1 hc1 hb1
      generalize hgb : w.heap.size = gb at *
      refine start_ (n := 14) (S := fun w' => Below v1.heap.size v1 w' ∧ w'.cell? ⟨gb, 0, none⟩ = some (.int .i64 t.dl) ∧ w'.cell? ⟨gb, 1, none⟩ = some (.int .i64 t.span) ∧ w'.cell? ⟨gb, 2, none⟩ = some (.int .i64 t.used) ∧ w'.cell? ⟨gb, 3, none⟩ = some (.int .i64 t.cap)) (ds := []) #[false, false, false, false, false, false, false, false, false, false, false, false, false, false] (by kernel_rfl) rfl rfl ⟨(still_drew v1).1, q0, q1, q2, q3⟩ (fun hHeld => ?_)
      refine pure_ (i := 0) (N := some 33) (v := ?_) (a' := ?_) #[true, false, false, false, false, false, false, false, false, false, false, false, false, false] rfl rfl (by kernel_rfl) (fun _ _ _ h => h) (Or.inl ⟨by rfl, ?_⟩) ?_ ?_
      rotate_left
      · intro w'
        go_simp
        with_reducible rfl
      rotate_left
      · simp only [Act.put, List.setIfInBounds_toArray, List.set_cons_zero, List.set_cons_succ, i64_w, i32_w]
        rfl
      refine pure_ (i := 2) (N := some 35) (v := ?_) (a' := ?_) #[true, false, true, false, false, false, false, false, false, false, false, false, false, false] rfl rfl (by kernel_rfl) (fun _ _ _ h => h) (Or.inl ⟨by rfl, ?_⟩) ?_ ?_
      rotate_left
      · intro w'
        go_simp
        with_reducible rfl
      rotate_left
      · simp only [Act.put, List.setIfInBounds_toArray, List.set_cons_zero, List.set_cons_succ, i64_w, i32_w]
        rfl
      refine take_ (i := 1) (N := some 34) (v := ?_) (a' := ?_) #[true, true, true, false, false, false, false, false, false, false, false, false, false, false] rfl rfl (by kernel_rfl) (fun _ _ _ h => h) (Or.inl ⟨by rfl, ?_⟩) hHeld ?_ ?_
      rotate_left
      · rintro w' ⟨s0, s1, s2, s3, s4⟩
        go_simp
        with_reducible rfl
      rotate_left
      · simp only [Act.put, List.setIfInBounds_toArray, List.set_cons_zero, List.set_cons_succ, i64_w, i32_w]
        rfl
      refine take_ (i := 3) (N := some 36) (v := ?_) (a' := ?_) #[true, true, true, true, false, false, false, false, false, false, false, false, false, false] rfl rfl (by kernel_rfl) (fun _ _ _ h => h) (Or.inl ⟨by rfl, ?_⟩) hHeld ?_ ?_
      rotate_left
      · rintro w' ⟨s0, s1, s2, s3, s4⟩
        go_simp
        with_reducible rfl
      rotate_left
      · simp only [Act.put, List.setIfInBounds_toArray, List.set_cons_zero, List.set_cons_succ, i64_w, i32_w]
        rfl
      refine pure_ (i := 4) (N := some 37) (v := ?_) (a' := ?_) #[true, true, true, true, true, false, false, false, false, false, false, false, false, false] rfl rfl (by kernel_rfl) (fun _ _ _ h => h) (Or.inl ⟨by rfl, ?_⟩) ?_ ?_
      rotate_left
      · intro w'
        go_simp
        with_reducible rfl
      rotate_left
      · simp only [Act.put, List.setIfInBounds_toArray, List.set_cons_zero, List.set_cons_succ, i64_w, i32_w]
        rfl
      refine pure_ (i := 5) (N := some 38) (v := ?_) (a' := ?_) #[true, true, true, true, true, true, false, false, false, false, false, false, false, false] rfl rfl (by kernel_rfl) (fun _ _ _ h => h) (Or.inl ⟨by rfl, ?_⟩) ?_ ?_
      rotate_left
      · intro w'
        go_simp
        with_reducible rfl
      rotate_left
      · simp only [Act.put, List.setIfInBounds_toArray, List.set_cons_zero, List.set_cons_succ, i64_w, i32_w]
        rfl
      refine pure_ (i := 6) (N := some 39) (v := ?_) (a' := ?_) #[true, true, true, true, true, true, true, false, false, false, false, false, false, false] rfl rfl (by kernel_rfl) (fun _ _ _ h => h) (Or.inl ⟨by rfl, ?_⟩) ?_ ?_
      rotate_left
      · intro w'
        go_simp
        with_reducible rfl
      rotate_left
      · simp only [Act.put, List.setIfInBounds_toArray, List.set_cons_zero, List.set_cons_succ, i64_w, i32_w]
        rfl
      refine take_ (i := 7) (N := some 40) (v := ?_) (a' := ?_) #[true, true, true, true, true, true, true, true, false, false, false, false, false, false] rfl rfl (by kernel_rfl) (fun _ _ _ h => h) (Or.inl ⟨by rfl, ?_⟩) hHeld ?_ ?_
      rotate_left
      · rintro w' ⟨s0, s1, s2, s3, s4⟩
        go_simp
        with_reducible rfl
      rotate_left
      · simp only [Act.put, List.setIfInBounds_toArray, List.set_cons_zero, List.set_cons_succ, i64_w, i32_w]
        rfl
      refine take_ (i := 8) (N := some 41) (v := ?_) (a' := ?_) #[true, true, true, true, true, true, true, true, true, false, false, false, false, false] rfl rfl (by kernel_rfl) (fun _ _ _ h => h) (Or.inl ⟨by rfl, ?_⟩) hHeld ?_ ?_
      rotate_left
      · rintro w' ⟨s0, s1, s2, s3, s4⟩
        go_simp
        with_reducible rfl
      rotate_left
      · simp only [Act.put, List.setIfInBounds_toArray, List.set_cons_zero, List.set_cons_succ, i64_w, i32_w]
        rfl
      refine one_ (i := 9) (N := some 42) #[true, true, true, true, true, true, true, true, true, true, false, false, false, false] rfl rfl (by kernel_rfl) (by decide) (fun K hK => ?_)
      refine goes_ Try.func31 (by kernel_rfl) rfl #[.agg #[.int .i64 t.dl, .int .i64 t.span, .int .i64 t.used, .int .i64 t.cap]] (by rfl) rfl rfl (by simp only [List.map_toArray, List.map_cons, List.map_nil]; rfl) ?_
      refine (HL.out _).mono ?_
      rintro r w3 ⟨rfl, hb3⟩
      refine ⟨_, rfl, ?_⟩
      refine hK.out _ _ ⟨hHeld.1.trans (hb3.mono hHeld.1.size), (hb3.cell (p := ⟨gb, 0, none⟩) (Nat.lt_of_lt_of_le hz1 hHeld.1.size)).trans hHeld.2.1, (hb3.cell (p := ⟨gb, 1, none⟩) (Nat.lt_of_lt_of_le hz1 hHeld.1.size)).trans hHeld.2.2.1, (hb3.cell (p := ⟨gb, 2, none⟩) (Nat.lt_of_lt_of_le hz1 hHeld.1.size)).trans hHeld.2.2.2.1, (hb3.cell (p := ⟨gb, 3, none⟩) (Nat.lt_of_lt_of_le hz1 hHeld.1.size)).trans hHeld.2.2.2.2⟩ (fun hHeld => ?_)
      clear hK K
      refine norm_ (a' := ?_) ?_ ?_
      rotate_left
      · show Act.put _ (some 42) _ = _
        simp only [Act.put, List.setIfInBounds_toArray, List.set_cons_zero, List.set_cons_succ, i64_w, i32_w]
        rfl
      refine pure_ (i := 10) (N := some 43) (v := ?_) (a' := ?_) #[true, true, true, true, true, true, true, true, true, true, true, false, false, false] rfl rfl (by kernel_rfl) (fun _ _ _ h => h) (Or.inl ⟨by rfl, ?_⟩) ?_ ?_
      rotate_left
      · intro w'
        go_simp
        with_reducible rfl
      rotate_left
      · simp only [Act.put, List.setIfInBounds_toArray, List.set_cons_zero, List.set_cons_succ, i64_w, i32_w]
        rfl
      refine pure_ (i := 11) (N := some 44) (v := ?_) (a' := ?_) #[true, true, true, true, true, true, true, true, true, true, true, true, false, false] rfl rfl (by kernel_rfl) (fun _ _ _ h => h) (Or.inl ⟨by rfl, ?_⟩) ?_ ?_
      rotate_left
      · intro w'
        go_simp
        with_reducible rfl
      rotate_left
      · simp only [Act.put, List.setIfInBounds_toArray, List.set_cons_zero, List.set_cons_succ, i64_w, i32_w]
        rfl
      refine pure_ (i := 12) (N := some 45) (v := ?_) (a' := ?_) #[true, true, true, true, true, true, true, true, true, true, true, true, true, false] rfl rfl (by kernel_rfl) (fun _ _ _ h => h) (Or.inl ⟨by rfl, ?_⟩) ?_ ?_
      rotate_left
      · intro w'
        go_simp
        with_reducible rfl
      rotate_left
      · simp only [Act.put, List.setIfInBounds_toArray, List.set_cons_zero, List.set_cons_succ, i64_w, i32_w]
        rfl
      refine pure_ (i := 13) (N := some 2) (v := ?_) (a' := ?_) #[true, true, true, true, true, true, true, true, true, true, true, true, true, true] rfl rfl (by kernel_rfl) (fun _ _ _ h => h) (Or.inl ⟨by rfl, ?_⟩) ?_ ?_
      rotate_left
      · intro w'
        go_simp
        with_reducible rfl
      rotate_left
      · simp only [Act.put, List.setIfInBounds_toArray, List.set_cons_zero, List.set_cons_succ, i64_w, i32_w]
        rfl
      refine done_ (by kernel_rfl) ?_

      go_wp2_with fail
      go_ret
      rw [HR.out, decide_eq_true hd, Bool.true_and]
      exact ⟨rfl, by first | exact HB.out.trans (hHeld.1.mono (Nat.le_of_lt hz1)) | (rw [hgb]; exact HB.out.trans (hHeld.1.mono (Nat.le_of_lt hz1)))⟩
    · go_enter Try.func26, Try.ntmps26
      go_wp2_with fail
      generalize hv1 : World.alloc w _ = v1
      obtain ⟨hb1, hz1, hc1⟩ := alloc_facts hv1
      have q0 := hc1 0
      have q1 := hc1 1
      have q2 := hc1 2
      have q3 := hc1 3
      have HB := Lib.hid hb1
      clear hv1 hc1 hb1
      generalize hgb : w.heap.size = gb at *
      have hdI : ¬ t.span ≤ t.dl := by omega
      refine start_ (n := 14) (S := fun w' => Below v1.heap.size v1 w' ∧ w'.cell? ⟨gb, 0, none⟩ = some (.int .i64 t.dl) ∧ w'.cell? ⟨gb, 1, none⟩ = some (.int .i64 t.span) ∧ w'.cell? ⟨gb, 2, none⟩ = some (.int .i64 t.used) ∧ w'.cell? ⟨gb, 3, none⟩ = some (.int .i64 t.cap)) (ds := []) #[false, false, false, false, false, false, false, false, false, false, false, false, false, false] (by kernel_rfl) rfl rfl ⟨(still_drew v1).1, q0, q1, q2, q3⟩ (fun hHeld => ?_)
      refine pure_ (i := 0) (N := some 33) (v := ?_) (a' := ?_) #[true, false, false, false, false, false, false, false, false, false, false, false, false, false] rfl rfl (by kernel_rfl) (fun _ _ _ h => h) (Or.inl ⟨by rfl, ?_⟩) ?_ ?_
      rotate_left
      · intro w'
        go_simp
        with_reducible rfl
      rotate_left
      · simp only [Act.put, List.setIfInBounds_toArray, List.set_cons_zero, List.set_cons_succ, i64_w, i32_w]
        rfl
      refine pure_ (i := 2) (N := some 35) (v := ?_) (a' := ?_) #[true, false, true, false, false, false, false, false, false, false, false, false, false, false] rfl rfl (by kernel_rfl) (fun _ _ _ h => h) (Or.inl ⟨by rfl, ?_⟩) ?_ ?_
      rotate_left
      · intro w'
        go_simp
        with_reducible rfl
      rotate_left
      · simp only [Act.put, List.setIfInBounds_toArray, List.set_cons_zero, List.set_cons_succ, i64_w, i32_w]
        rfl
      refine take_ (i := 1) (N := some 34) (v := ?_) (a' := ?_) #[true, true, true, false, false, false, false, false, false, false, false, false, false, false] rfl rfl (by kernel_rfl) (fun _ _ _ h => h) (Or.inl ⟨by rfl, ?_⟩) hHeld ?_ ?_
      rotate_left
      · rintro w' ⟨s0, s1, s2, s3, s4⟩
        go_simp
        with_reducible rfl
      rotate_left
      · simp only [Act.put, List.setIfInBounds_toArray, List.set_cons_zero, List.set_cons_succ, i64_w, i32_w]
        rfl
      refine take_ (i := 3) (N := some 36) (v := ?_) (a' := ?_) #[true, true, true, true, false, false, false, false, false, false, false, false, false, false] rfl rfl (by kernel_rfl) (fun _ _ _ h => h) (Or.inl ⟨by rfl, ?_⟩) hHeld ?_ ?_
      rotate_left
      · rintro w' ⟨s0, s1, s2, s3, s4⟩
        go_simp
        with_reducible rfl
      rotate_left
      · simp only [Act.put, List.setIfInBounds_toArray, List.set_cons_zero, List.set_cons_succ, i64_w, i32_w]
        rfl
      refine pure_ (i := 4) (N := some 37) (v := ?_) (a' := ?_) #[true, true, true, true, true, false, false, false, false, false, false, false, false, false] rfl rfl (by kernel_rfl) (fun _ _ _ h => h) (Or.inl ⟨by rfl, ?_⟩) ?_ ?_
      rotate_left
      · intro w'
        go_simp
        with_reducible rfl
      rotate_left
      · simp only [Act.put, List.setIfInBounds_toArray, List.set_cons_zero, List.set_cons_succ, i64_w, i32_w]
        rfl
      refine pure_ (i := 5) (N := some 38) (v := ?_) (a' := ?_) #[true, true, true, true, true, true, false, false, false, false, false, false, false, false] rfl rfl (by kernel_rfl) (fun _ _ _ h => h) (Or.inl ⟨by rfl, ?_⟩) ?_ ?_
      rotate_left
      · intro w'
        go_simp
        with_reducible rfl
      rotate_left
      · simp only [Act.put, List.setIfInBounds_toArray, List.set_cons_zero, List.set_cons_succ, i64_w, i32_w]
        rfl
      refine pure_ (i := 6) (N := some 39) (v := undef) (a' := ?_) #[true, true, true, true, true, true, true, false, false, false, false, false, false, false] rfl rfl (by kernel_rfl) (fun _ _ _ h => h) (Or.inr ⟨by rfl, rfl⟩) ?_ ?_
      rotate_left
      · simp only [Act.put, List.setIfInBounds_toArray, List.set_cons_zero, List.set_cons_succ, i64_w, i32_w]
        rfl
      refine pure_ (i := 7) (N := some 40) (v := undef) (a' := ?_) #[true, true, true, true, true, true, true, true, false, false, false, false, false, false] rfl rfl (by kernel_rfl) (fun _ _ _ h => h) (Or.inr ⟨by rfl, rfl⟩) ?_ ?_
      rotate_left
      · simp only [Act.put, List.setIfInBounds_toArray, List.set_cons_zero, List.set_cons_succ, i64_w, i32_w]
        rfl
      refine pure_ (i := 8) (N := some 41) (v := undef) (a' := ?_) #[true, true, true, true, true, true, true, true, true, false, false, false, false, false] rfl rfl (by kernel_rfl) (fun _ _ _ h => h) (Or.inr ⟨by rfl, rfl⟩) ?_ ?_
      rotate_left
      · simp only [Act.put, List.setIfInBounds_toArray, List.set_cons_zero, List.set_cons_succ, i64_w, i32_w]
        rfl
      refine pure_ (i := 9) (N := some 42) (v := undef) (a' := ?_) #[true, true, true, true, true, true, true, true, true, true, false, false, false, false] rfl rfl (by kernel_rfl) (fun _ _ _ h => h) (Or.inr ⟨by rfl, rfl⟩) ?_ ?_
      rotate_left
      · simp only [Act.put, List.setIfInBounds_toArray, List.set_cons_zero, List.set_cons_succ, i64_w, i32_w]
        rfl
      refine pure_ (i := 10) (N := some 43) (v := undef) (a' := ?_) #[true, true, true, true, true, true, true, true, true, true, true, false, false, false] rfl rfl (by kernel_rfl) (fun _ _ _ h => h) (Or.inr ⟨by rfl, rfl⟩) ?_ ?_
      rotate_left
      · simp only [Act.put, List.setIfInBounds_toArray, List.set_cons_zero, List.set_cons_succ, i64_w, i32_w]
        rfl
      refine pure_ (i := 11) (N := some 44) (v := undef) (a' := ?_) #[true, true, true, true, true, true, true, true, true, true, true, true, false, false] rfl rfl (by kernel_rfl) (fun _ _ _ h => h) (Or.inr ⟨by rfl, rfl⟩) ?_ ?_
      rotate_left
      · simp only [Act.put, List.setIfInBounds_toArray, List.set_cons_zero, List.set_cons_succ, i64_w, i32_w]
        rfl
      refine pure_ (i := 12) (N := some 45) (v := ?_) (a' := ?_) #[true, true, true, true, true, true, true, true, true, true, true, true, true, false] rfl rfl (by kernel_rfl) (fun _ _ _ h => h) (Or.inl ⟨by rfl, ?_⟩) ?_ ?_
      rotate_left
      · intro w'
        go_simp
        with_reducible rfl
      rotate_left
      · simp only [Act.put, List.setIfInBounds_toArray, List.set_cons_zero, List.set_cons_succ, i64_w, i32_w]
        rfl
      refine pure_ (i := 13) (N := some 2) (v := ?_) (a' := ?_) #[true, true, true, true, true, true, true, true, true, true, true, true, true, true] rfl rfl (by kernel_rfl) (fun _ _ _ h => h) (Or.inl ⟨by rfl, ?_⟩) ?_ ?_
      rotate_left
      · intro w'
        go_simp
        with_reducible rfl
      rotate_left
      · simp only [Act.put, List.setIfInBounds_toArray, List.set_cons_zero, List.set_cons_succ, i64_w, i32_w]
        rfl
      refine done_ (by kernel_rfl) ?_

      go_wp2_with fail
      go_ret
      rw [HR.out, decide_eq_false (by omega), Bool.false_and]
      exact ⟨rfl, by first | exact HB.out.trans (hHeld.1.mono (Nat.le_of_lt hz1)) | (rw [hgb]; exact HB.out.trans (hHeld.1.mono (Nat.le_of_lt hz1)))⟩
  · have HR : Hid (rightTe t = false) := Lib.hid (by rw [rightTe, Bool.eq_false_iff.2 hb, Bool.false_and, Bool.false_and])
    have hw := base_ways t hb
    clear hb
    rcases hw with h | ⟨h1, h⟩ | ⟨h1, h2, h⟩ | ⟨h1, h2, h3, h⟩ | ⟨h1, h2, h3, h4, h⟩ | ⟨h1, h2, h3, h4, h5, h⟩
    all_goals
      go_enter Try.func26, Try.ntmps26
      go_wp2_with fail
      go_ret
      refine ⟨by rw [HR.out]; rfl, ?_⟩
      repeat (first | (with_reducible exact Below.refl _ _) | (with_reducible assumption) | (with_reducible refine bw_alloc ?_) | (with_reducible refine bw_drew ?_) | (with_reducible refine bw_drewN ?_) | (with_reducible refine bw_set ?_ (by first | (simp; done) | (dsimp only; omega))) | (with_reducible refine bw_via (by assumption) ?_))
set_option maxHeartbeats 1000000 in
theorem over_te (t : Te) (now : Int) (w : World) : Calls Try.prog 17 #[.agg #[.int .i64 t.dl, .int .i64 t.span, .int .i64 t.used, .int .i64 t.cap], .int .i64 now] w fun r w' => r = .returned (.bool (overTe t now)) ∧ Below w.heap.size w w' := by
  have HR := Lib.hid (fun W => right_te t W)
  cases hr : rightTe t
  all_goals
    have HO : Hid (overTe t now = (rightTe t && decide (t.dl ≤ now))) := Lib.hid rfl
    rw [hr] at HO
    simp only [hr] at HR
    clear hr
    go_enter Try.func17, Try.ntmps17
    go_wp2_with fail
    generalize hv1 : World.alloc w _ = v1
    obtain ⟨hb1, hz1, hc1⟩ := alloc_facts hv1
    have q0 := hc1 0
    have q1 := hc1 1
    have q2 := hc1 2
    have q3 := hc1 3
    have HB := Lib.hid hb1
    clear hv1 hc1 hb1
    generalize hgb : w.heap.size = gb at *
    refine (HR.out _).mono ?_
    rintro r v2 ⟨rfl, hb2⟩
    have p0 := (hb2.cell (p := ⟨gb, 0, none⟩) hz1).trans q0
    have HB2 := Lib.hid (HB.out.trans (hb2.mono (Nat.le_of_lt hz1)))
    clear hb2 q0 q1 q2 q3
    go_wp2_with fail
    go_ret
    rw [HO.out]
    exact ⟨rfl, by rw [hgb]; exact HB2.out⟩
end Go.Proofs.Ytdlfjbllmmkmkaa.Chair
