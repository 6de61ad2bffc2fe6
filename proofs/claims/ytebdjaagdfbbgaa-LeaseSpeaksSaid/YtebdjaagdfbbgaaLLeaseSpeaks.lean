/- A lease speaks in one epoch at most: its own, where it is held: for every lease, and every two epochs, the statement's call returns true. -/
import Derived.Test.YtebdjaagdfbbgaaLeaseAlive
import Derived.Deep.RegionHeld3
import Derived.Test.YtebdjaagdfbbgaaWLast
namespace Go.Proofs.Ytebdjaagdfbbgaa.LLeaseSpeaks
open Go.RowKit LeaseSpec Flat Lease Go.Proofs.YtebdjaagdfbbgaaW.PrintLast
set_option linter.unusedSimpArgs false
set_option linter.unusedVariables false

set_option maxHeartbeats 1000000 in
theorem walk (c0 : List Value) (a1 : Int) (a2 : Int) (w : World) (w0 : Fits [.int .i64, .int .i64, .int .u8] c0) (w1 : (Lit.int .i64 a1).wf = true) (w2 : (Lit.int .i64 a2).wf = true) :
    Calls Try.prog 5 #[.agg c0.toArray, .int .i64 a1, .int .i64 a2] w fun e w' => e = .returned (.bool true) ∧ Below w.heap.size w w' := by
  obtain ⟨e, _, rfl, _, w0⟩ := w0.int
  obtain ⟨s, _, rfl, _, w0⟩ := w0.int
  obtain ⟨t, _, rfl, _, w0⟩ := w0.int
  obtain rfl := w0.done
  clear w0 w1 w2
  have hown : speaksB e s t e = (rightB e s t && s == 1) := by simp [speaksB]
  cases hr : rightB e s t with
  | false =>
    have hs : ∀ x, speaksB e s t x = false := by intro x; simp [speaksB, hr]
    go_enter Try.func5, Try.ntmps5
    go_wp2_with fail
    refine (LeaseAlive.alive_any _).mono ?_
    rintro r w1 ⟨rfl, hb1⟩
    obtain ⟨c_hb1, f_hb1, z_hb1⟩ := bcell hb1; have z0_hb1 := z_hb1 (w.heap.size) (by first | omega | (simp only [World.size_alloc, World.size_setCell, World.size_drew] <;> omega)); clear z_hb1
    go_wp2_with fail
    refine (speaks_any _ _ _ _ _).mono ?_
    rw [hs]
    rintro r w2 ⟨rfl, hb2⟩
    obtain ⟨c_hb2, f_hb2, z_hb2⟩ := bcell hb2; have z0_hb2 := z_hb2 (w.heap.size) (by first | omega | (simp only [World.size_alloc, World.size_setCell, World.size_drew] <;> omega)); have z1_hb2 := z_hb2 (w1.heap.size) (by first | omega | (simp only [World.size_alloc, World.size_setCell, World.size_drew] <;> omega)); clear z_hb2
    go_wp2_with fail
    refine start_ (n := 13) (S := fun w' => Below w2.heap.size w2 w' ∧ ∀ b o, b < w2.heap.size → w'.cell? ⟨b, o, none⟩ = w2.cell? ⟨b, o, none⟩) (ds := []) #[false, false, false, false, false, false, false, false, false, false, false, false, false] (by kernel_rfl) rfl rfl ⟨(still_drew w2).1, (still_drew w2).2⟩ (fun hHeld => ?_)
    refine pure_ (i := 1) (N := some 35) (v := ?_) (a' := ?_) #[false, true, false, false, false, false, false, false, false, false, false, false, false] rfl rfl (by kernel_rfl) (fun _ _ _ h => h) (Or.inl ⟨by rfl, ?_⟩) ?_ ?_
    rotate_left
    · intro w'
      go_simp
      with_reducible rfl
    rotate_left
    · simp only [Act.put, List.setIfInBounds_toArray, List.set_cons_zero, List.set_cons_succ, i64_w, i32_w]
      rfl
    refine take_ (i := 0) (N := some 34) (v := ?_) (a' := ?_) #[true, true, false, false, false, false, false, false, false, false, false, false, false] rfl rfl (by kernel_rfl) (fun _ _ _ h => h) (Or.inl ⟨by rfl, ?_⟩) hHeld ?_ ?_
    rotate_left
    · rintro w' ⟨s0, s1⟩
      go_simp
      with_reducible rfl
    rotate_left
    · simp only [Act.put, List.setIfInBounds_toArray, List.set_cons_zero, List.set_cons_succ, i64_w, i32_w]
      rfl
    refine take_ (i := 2) (N := some 36) (v := ?_) (a' := ?_) #[true, true, true, false, false, false, false, false, false, false, false, false, false] rfl rfl (by kernel_rfl) (fun _ _ _ h => h) (Or.inl ⟨by rfl, ?_⟩) hHeld ?_ ?_
    rotate_left
    · rintro w' ⟨s0, s1⟩
      go_simp
      with_reducible rfl
    rotate_left
    · simp only [Act.put, List.setIfInBounds_toArray, List.set_cons_zero, List.set_cons_succ, i64_w, i32_w]
      rfl
    refine take_ (i := 4) (N := some 38) (v := ?_) (a' := ?_) #[true, true, true, false, true, false, false, false, false, false, false, false, false] rfl rfl (by kernel_rfl) (fun _ _ _ h => h) (Or.inl ⟨by rfl, ?_⟩) hHeld ?_ ?_
    rotate_left
    · rintro w' ⟨s0, s1⟩
      go_simp
      with_reducible rfl
    rotate_left
    · simp only [Act.put, List.setIfInBounds_toArray, List.set_cons_zero, List.set_cons_succ, i64_w, i32_w]
      rfl
    refine one_ (i := 3) (N := some 37) #[true, true, true, true, true, false, false, false, false, false, false, false, false] rfl rfl (by kernel_rfl) (by decide) (fun K hK => ?_)
    refine goes_ Try.func15 (by kernel_rfl) rfl #[.agg #[.int .i64 e, .int .i64 s, .int .u8 t], .int .i64 e] (by rfl) rfl rfl (by simp only [List.map_toArray, List.map_cons, List.map_nil]; rfl) ?_
    refine (speaks_any e s t e _).mono ?_
    rw [hs]
    rintro e w3 ⟨rfl, hb⟩
    refine ⟨_, rfl, ?_⟩
    refine hK.out _ _ ⟨(still_keep hHeld hb).1, (still_keep hHeld hb).2⟩ (fun hHeld => ?_)
    clear hK K
    refine norm_ (a' := ?_) ?_ ?_
    rotate_left
    · show Act.put _ (some 37) _ = _
      simp only [Act.put, List.setIfInBounds_toArray, List.set_cons_zero, List.set_cons_succ, i64_w, i32_w]
      rfl
    refine one_ (i := 5) (N := some 39) #[true, true, true, true, true, true, false, false, false, false, false, false, false] rfl rfl (by kernel_rfl) (by decide) (fun K hK => ?_)
    refine goes_ Try.func13 (by kernel_rfl) rfl #[.agg #[.int .i64 e, .int .i64 s, .int .u8 t]] (by rfl) rfl rfl (by simp only [List.map_toArray, List.map_cons, List.map_nil]; rfl) ?_
    refine (right_any e s t _).mono ?_
    rw [hr]
    rintro e w3 ⟨rfl, hb⟩
    refine ⟨_, rfl, ?_⟩
    refine hK.out _ _ ⟨(still_keep hHeld hb).1, (still_keep hHeld hb).2⟩ (fun hHeld => ?_)
    clear hK K
    refine norm_ (a' := ?_) ?_ ?_
    rotate_left
    · show Act.put _ (some 39) _ = _
      simp only [Act.put, List.setIfInBounds_toArray, List.set_cons_zero, List.set_cons_succ, i64_w, i32_w]
      rfl
    refine pure_ (i := 6) (N := some 40) (v := ?_) (a' := ?_) #[true, true, true, true, true, true, true, false, false, false, false, false, false] rfl rfl (by kernel_rfl) (fun _ _ _ h => h) (Or.inl ⟨by rfl, ?_⟩) ?_ ?_
    rotate_left
    · intro w'
      go_simp
      with_reducible rfl
    rotate_left
    · simp only [Act.put, List.setIfInBounds_toArray, List.set_cons_zero, List.set_cons_succ, i64_w, i32_w]
      rfl
    refine pure_ (i := 7) (N := some 41) (v := undef) (a' := ?_) #[true, true, true, true, true, true, true, true, false, false, false, false, false] rfl rfl (by kernel_rfl) (fun _ _ _ h => h) (Or.inr ⟨by rfl, rfl⟩) ?_ ?_
    rotate_left
    · simp only [Act.put, List.setIfInBounds_toArray, List.set_cons_zero, List.set_cons_succ, i64_w, i32_w]
      rfl
    refine pure_ (i := 8) (N := some 42) (v := undef) (a' := ?_) #[true, true, true, true, true, true, true, true, true, false, false, false, false] rfl rfl (by kernel_rfl) (fun _ _ _ h => h) (Or.inr ⟨by rfl, rfl⟩) ?_ ?_
    rotate_left
    · simp only [Act.put, List.setIfInBounds_toArray, List.set_cons_zero, List.set_cons_succ, i64_w, i32_w]
      rfl
    refine pure_ (i := 9) (N := some 43) (v := undef) (a' := ?_) #[true, true, true, true, true, true, true, true, true, true, false, false, false] rfl rfl (by kernel_rfl) (fun _ _ _ h => h) (Or.inr ⟨by rfl, rfl⟩) ?_ ?_
    rotate_left
    · simp only [Act.put, List.setIfInBounds_toArray, List.set_cons_zero, List.set_cons_succ, i64_w, i32_w]
      rfl
    refine pure_ (i := 10) (N := some 44) (v := ?_) (a' := ?_) #[true, true, true, true, true, true, true, true, true, true, true, false, false] rfl rfl (by kernel_rfl) (fun _ _ _ h => h) (Or.inl ⟨by rfl, ?_⟩) ?_ ?_
    rotate_left
    · intro w'
      go_simp
      with_reducible rfl
    rotate_left
    · simp only [Act.put, List.setIfInBounds_toArray, List.set_cons_zero, List.set_cons_succ, i64_w, i32_w]
      rfl
    refine pure_ (i := 11) (N := some 45) (v := ?_) (a' := ?_) #[true, true, true, true, true, true, true, true, true, true, true, true, false] rfl rfl (by kernel_rfl) (fun _ _ _ h => h) (Or.inl ⟨by rfl, ?_⟩) ?_ ?_
    rotate_left
    · intro w'
      go_simp
      with_reducible rfl
    rotate_left
    · simp only [Act.put, List.setIfInBounds_toArray, List.set_cons_zero, List.set_cons_succ, i64_w, i32_w]
      rfl
    refine pure_ (i := 12) (N := some 6) (v := ?_) (a' := ?_) #[true, true, true, true, true, true, true, true, true, true, true, true, true] rfl rfl (by kernel_rfl) (fun _ _ _ h => h) (Or.inl ⟨by rfl, ?_⟩) ?_ ?_
    rotate_left
    · intro w'
      go_simp
      with_reducible rfl
    rotate_left
    · simp only [Act.put, List.setIfInBounds_toArray, List.set_cons_zero, List.set_cons_succ, i64_w, i32_w]
      rfl
    refine done_ (by kernel_rfl) ?_

    go_wp2
    go_ret
    refine ⟨by simp, ?_⟩
    repeat (first | exact Below.refl _ _ | refine below_alloc ?_ | refine below_drew ?_ | refine below_set ?_ (by first | (simp; done) | (dsimp only; omega)) | refine below_via (by assumption) ?_)
  | true =>
    cases hs : speaksB e s t a1 with
    | false =>
      go_enter Try.func5, Try.ntmps5
      go_wp2_with fail
      refine (LeaseAlive.alive_any _).mono ?_
      rintro r w1 ⟨rfl, hb1⟩
      obtain ⟨c_hb1, f_hb1, z_hb1⟩ := bcell hb1; have z0_hb1 := z_hb1 (w.heap.size) (by first | omega | (simp only [World.size_alloc, World.size_setCell, World.size_drew] <;> omega)); clear z_hb1
      go_wp2_with fail
      refine (speaks_any _ _ _ _ _).mono ?_
      rw [hs]
      rintro r w2 ⟨rfl, hb2⟩
      obtain ⟨c_hb2, f_hb2, z_hb2⟩ := bcell hb2; have z0_hb2 := z_hb2 (w.heap.size) (by first | omega | (simp only [World.size_alloc, World.size_setCell, World.size_drew] <;> omega)); have z1_hb2 := z_hb2 (w1.heap.size) (by first | omega | (simp only [World.size_alloc, World.size_setCell, World.size_drew] <;> omega)); clear z_hb2
      go_wp2_with fail
      go_region_held3 (fun w' => Below w2.heap.size w2 w' ∧ (∀ b o, b < w2.heap.size → w'.cell? ⟨b, o, none⟩ = w2.cell? ⟨b, o, none⟩)) (first | exact still_start _ | exact still_drew _ | exact still_keep (by assumption) (by assumption)) (first | (go_at_call 15; refine (speaks_any _ _ _ _ _).mono ?_; rintro e w' ⟨rfl, hb⟩) | (go_at_call 13; refine (right_any _ _ _ _).mono ?_; rw [hr]; rintro e w' ⟨rfl, hb⟩))
      go_wp2
      go_ret
      refine ⟨by simp [hown, hr], ?_⟩
      repeat (first | exact Below.refl _ _ | refine below_alloc ?_ | refine below_drew ?_ | refine below_set ?_ (by first | (simp; done) | (dsimp only; omega)) | refine below_via (by assumption) ?_)
    | true =>
      obtain ⟨rfl, rfl⟩ : s = 1 ∧ e = a1 := by simp [speaksB] at hs; exact ⟨hs.1.2, hs.2⟩
      have h2 : speaksB e 1 t a2 = (e == a2) := by simp [speaksB, hr]
      go_enter Try.func5, Try.ntmps5
      go_wp2_with fail
      refine (LeaseAlive.alive_any _).mono ?_
      rintro r w1 ⟨rfl, hb1⟩
      obtain ⟨c_hb1, f_hb1, z_hb1⟩ := bcell hb1; have z0_hb1 := z_hb1 (w.heap.size) (by first | omega | (simp only [World.size_alloc, World.size_setCell, World.size_drew] <;> omega)); clear z_hb1
      go_wp2_with fail
      refine (speaks_any _ _ _ _ _).mono ?_
      rw [hs]
      rintro r w2 ⟨rfl, hb2⟩
      obtain ⟨c_hb2, f_hb2, z_hb2⟩ := bcell hb2; have z0_hb2 := z_hb2 (w.heap.size) (by first | omega | (simp only [World.size_alloc, World.size_setCell, World.size_drew] <;> omega)); have z1_hb2 := z_hb2 (w1.heap.size) (by first | omega | (simp only [World.size_alloc, World.size_setCell, World.size_drew] <;> omega)); clear z_hb2
      go_wp2_with fail
      refine (speaks_any _ _ _ _ _).mono ?_
      rw [h2]
      rintro r w3 ⟨rfl, hb3⟩
      obtain ⟨c_hb3, f_hb3, z_hb3⟩ := bcell hb3; have z0_hb3 := z_hb3 (w.heap.size) (by first | omega | (simp only [World.size_alloc, World.size_setCell, World.size_drew] <;> omega)); have z1_hb3 := z_hb3 (w1.heap.size) (by first | omega | (simp only [World.size_alloc, World.size_setCell, World.size_drew] <;> omega)); clear z_hb3
      go_wp2_with fail
      go_region_held3 (fun w' => Below w3.heap.size w3 w' ∧ (∀ b o, b < w3.heap.size → w'.cell? ⟨b, o, none⟩ = w3.cell? ⟨b, o, none⟩)) (first | exact still_start _ | exact still_drew _ | exact still_keep (by assumption) (by assumption)) (first | (go_at_call 15; refine (speaks_any _ _ _ _ _).mono ?_; rintro e w' ⟨rfl, hb⟩) | (go_at_call 13; refine (right_any _ _ _ _).mono ?_; rw [hr]; rintro e w' ⟨rfl, hb⟩))
      go_wp2
      go_ret
      refine ⟨by simp [hown, hr], ?_⟩
      repeat (first | exact Below.refl _ _ | refine below_alloc ?_ | refine below_drew ?_ | refine below_set ?_ (by first | (simp; done) | (dsimp only; omega)) | refine below_via (by assumption) ?_)
end Go.Proofs.Ytebdjaagdfbbgaa.LLeaseSpeaks
