/- Which tallies may be, by the reference. -/
import Derived.Test.YtdlfjbllmmkmkaaTally
import Derived.Test.YtdlfjbllmmkmkaaRTermsNew
namespace Go.Proofs.Ytdlfjbllmmkmkaa.Chair
open Go.RowKit Flat ChairSpec Go.Proofs.YtdlfjbllmmkmkaaW.PrintLast
set_option linter.unusedSimpArgs false
set_option linter.unusedVariables false
set_option maxRecDepth 100000
theorem any_succ (f : Nat → Bool) (k : Nat) : (List.range (k + 1)).any f = ((List.range k).any f || f k) := by rw [List.range_succ, List.any_append]; simp
set_option maxHeartbeats 8000000 in
theorem rright_ta (t : Ta) (w : World) : Calls Try.prog 61 #[.agg (tc t).toArray] w fun r w' => r = .returned (.bool (rightT t)) ∧ Below w.heap.size w w' := by
  have hlen : (tc t).toArray.size = 24 := by simp [tc_len]
  have e0 : (tc t)[0]'(by rw [tc_len]; decide) = .bool (t.who 0) := rfl
  have e1 : (tc t)[1]'(by rw [tc_len]; decide) = .bool (t.who 1) := rfl
  have e2 : (tc t)[2]'(by rw [tc_len]; decide) = .bool (t.who 2) := rfl
  have e3 : (tc t)[3]'(by rw [tc_len]; decide) = .bool (t.who 3) := rfl
  have e4 : (tc t)[4]'(by rw [tc_len]; decide) = .bool (t.who 4) := rfl
  have e5 : (tc t)[5]'(by rw [tc_len]; decide) = .bool (t.who 5) := rfl
  have e6 : (tc t)[6]'(by rw [tc_len]; decide) = .bool (t.who 6) := rfl
  have e7 : (tc t)[7]'(by rw [tc_len]; decide) = .bool (t.who 7) := rfl
  go_enter Try.func61, Try.ntmps61
  go_wp2_with fail
  generalize hv1 : World.alloc w _ = v1
  obtain ⟨hb1, hz1, hc1⟩ := alloc_facts hv1
  have hTA : TaAt v1 w.heap.size 0 t := fun j v hv => by rw [Nat.zero_add, hc1 j]; simpa using hv
  have HB1 := Lib.hid hb1
  have HTA := Lib.hid hTA
  clear hv1 hc1 hb1 hTA e0 e1 e2 e3 e4 e5 e6 e7 hlen
  generalize hgb : w.heap.size = gb at *
  go_loopw [3, 4] (fun s i wr => ∃ k : Nat, k ≤ 8 ∧ i = .int .i64 (k : Int) ∧ s = .bool ((List.range k).any t.who) ∧ (∀ j, j < k → badT t j = false) ∧ Below v1.heap.size v1 wr) (fun _ i _ => 8 - (intOf i).toNat)
  case atStart => exact ⟨0, by omega, rfl, rfl, fun j hj => absurd hj (by omega), Below.refl _ _⟩
  case round =>
    obtain ⟨wo, h_wo⟩ : ∃ v : World, v = wr := ⟨_, rfl⟩; subst h_wo
    obtain ⟨k, hk, rfl, rfl, hgood, hB⟩ := hrel
    have HG := Lib.hid hgood
    have HB := Lib.hid hB
    have HTO := Lib.hid (HTA.out.below hB)
    clear hgood hB
    by_cases hk8 : k = 8
    · have hkI : ¬ (k : Int) < 8 := by omega
      have hR : rightT t = (List.range k).any t.who := by
        rw [rightT, show (List.range 8).all (fun i => !badT t i) = true from List.all_eq_true.2 (fun i hi => by rw [HG.out i (by have := List.mem_range.1 hi; omega)]; rfl), Bool.true_and, hk8]
      have HRR := Lib.hid hR
      generalize (List.range k).any t.who = ga at *
      clear hR
      go_wp2_with fail
      go_ret
      rw [HRR.out]
      exact ⟨rfl, by first | exact HB1.out.trans (HB.out.mono (Nat.le_of_lt hz1)) | (rw [hgb]; exact HB1.out.trans (HB.out.mono (Nat.le_of_lt hz1)))⟩
    · have hk7 : k < 8 := by omega
      have hkI : (k : Int) < 8 := by omega
      have hk0 : (0 : Int) ≤ (k : Int) := by omega
      have q8 := HTO.out.vote hk7
      have q16 := HTO.out.epoch hk7
      have qw := HTO.out.who hk7
      have hlt : gb < wo.heap.size := Flat.cell_lt q8
      simp only [Nat.zero_add] at q8 q16 qw
      have HBW := Lib.hid (fun h => bad_ways t k h)
      have HGW := Lib.hid (fun h => good_ways t k h)
      obtain ⟨bd, HBD⟩ : ∃ bd, Hid (badT t k = bd) := ⟨_, Lib.hid rfl⟩
      rw [HBD.out] at HBW HGW
      have HAS := Lib.hid (any_succ t.who k)
      generalize (List.range k).any t.who = sm at *
      generalize t.votes k = v at *
      generalize t.epochs k = e at *
      generalize t.who k = is at *
      go_upto_region 5 with fail
      refine start_ (n := 10) (S := fun w' => Below wo.heap.size wo w' ∧ w'.cell? ⟨gb, 8 + k, none⟩ = some (.int .i64 v) ∧ w'.cell? ⟨gb, 16 + k, none⟩ = some (.int .i64 e)) (ds := []) #[false, false, false, false, false, false, false, false, false, false] (by kernel_rfl) rfl rfl ⟨(still_drew wo).1, q8, q16⟩ (fun hHeld => ?_)
      refine pure_ (i := 0) (N := some 11) (v := ?_) (a' := ?_) #[true, false, false, false, false, false, false, false, false, false] rfl rfl (by kernel_rfl) (fun _ _ _ h => h) (Or.inl ⟨by rfl, ?_⟩) ?_ ?_
      rotate_left
      · intro w'
        go_simp
        with_reducible rfl
      rotate_left
      · simp only [Act.put, List.setIfInBounds_toArray, List.set_cons_zero, List.set_cons_succ, i64_w, i32_w]
        rfl
      refine pure_ (i := 1) (N := some 12) (v := ?_) (a' := ?_) #[true, true, false, false, false, false, false, false, false, false] rfl rfl (by kernel_rfl) (fun _ _ _ h => h) (Or.inl ⟨by rfl, ?_⟩) ?_ ?_
      rotate_left
      · intro w'
        go_simp
        with_reducible rfl
      rotate_left
      · simp only [Act.put, List.setIfInBounds_toArray, List.set_cons_zero, List.set_cons_succ, i64_w, i32_w]
        rfl
      refine pure_ (i := 2) (N := some 13) (v := ?_) (a' := ?_) #[true, true, true, false, false, false, false, false, false, false] rfl rfl (by kernel_rfl) (fun _ _ _ h => h) (Or.inl ⟨by rfl, ?_⟩) ?_ ?_
      rotate_left
      · intro w'
        go_simp
        with_reducible rfl
      rotate_left
      · simp only [Act.put, List.setIfInBounds_toArray, List.set_cons_zero, List.set_cons_succ, i64_w, i32_w]
        rfl
      refine pure_ (i := 4) (N := some 15) (v := ?_) (a' := ?_) #[true, true, true, false, true, false, false, false, false, false] rfl rfl (by kernel_rfl) (fun _ _ _ h => h) (Or.inl ⟨by rfl, ?_⟩) ?_ ?_
      rotate_left
      · intro w'
        go_simp
        with_reducible rfl
      rotate_left
      · simp only [Act.put, List.setIfInBounds_toArray, List.set_cons_zero, List.set_cons_succ, i64_w, i32_w]
        rfl
      refine pure_ (i := 5) (N := some 16) (v := ?_) (a' := ?_) #[true, true, true, false, true, true, false, false, false, false] rfl rfl (by kernel_rfl) (fun _ _ _ h => h) (Or.inl ⟨by rfl, ?_⟩) ?_ ?_
      rotate_left
      · intro w'
        go_simp
        with_reducible rfl
      rotate_left
      · simp only [Act.put, List.setIfInBounds_toArray, List.set_cons_zero, List.set_cons_succ, i64_w, i32_w]
        rfl
      refine pure_ (i := 6) (N := some 17) (v := ?_) (a' := ?_) #[true, true, true, false, true, true, true, false, false, false] rfl rfl (by kernel_rfl) (fun _ _ _ h => h) (Or.inl ⟨by rfl, ?_⟩) ?_ ?_
      rotate_left
      · intro w'
        go_simp
        with_reducible rfl
      rotate_left
      · simp only [Act.put, List.setIfInBounds_toArray, List.set_cons_zero, List.set_cons_succ, i64_w, i32_w]
        rfl
      refine take_ (i := 3) (N := some 14) (v := ?_) (a' := ?_) #[true, true, true, true, true, true, true, false, false, false] rfl rfl (by kernel_rfl) (fun _ _ _ h => h) (Or.inl ⟨by rfl, ?_⟩) hHeld ?_ ?_
      rotate_left
      · rintro w' ⟨s0, s1, s2⟩
        go_simp
        with_reducible rfl
      rotate_left
      · simp only [Act.put, List.setIfInBounds_toArray, List.set_cons_zero, List.set_cons_succ, i64_w, i32_w]
        rfl
      refine pure_ (i := 8) (N := some 5) (v := ?_) (a' := ?_) #[true, true, true, true, true, true, true, false, true, false] rfl rfl (by kernel_rfl) (fun _ _ _ h => h) (Or.inl ⟨by rfl, ?_⟩) ?_ ?_
      rotate_left
      · intro w'
        go_simp
        with_reducible rfl
      rotate_left
      · simp only [Act.put, List.setIfInBounds_toArray, List.set_cons_zero, List.set_cons_succ, i64_w, i32_w]
        rfl
      refine take_ (i := 7) (N := some 18) (v := ?_) (a' := ?_) #[true, true, true, true, true, true, true, true, true, false] rfl rfl (by kernel_rfl) (fun _ _ _ h => h) (Or.inl ⟨by rfl, ?_⟩) hHeld ?_ ?_
      rotate_left
      · rintro w' ⟨s0, s1, s2⟩
        go_simp
        with_reducible rfl
      rotate_left
      · simp only [Act.put, List.setIfInBounds_toArray, List.set_cons_zero, List.set_cons_succ, i64_w, i32_w]
        rfl
      refine pure_ (i := 9) (N := some 6) (v := ?_) (a' := ?_) #[true, true, true, true, true, true, true, true, true, true] rfl rfl (by kernel_rfl) (fun _ _ _ h => h) (Or.inl ⟨by rfl, ?_⟩) ?_ ?_
      rotate_left
      · intro w'
        go_simp
        with_reducible rfl
      rotate_left
      · simp only [Act.put, List.setIfInBounds_toArray, List.set_cons_zero, List.set_cons_succ, i64_w, i32_w]
        rfl
      refine done_ (by kernel_rfl) ?_

      have HBD2 := Lib.hid (HB.out.trans (hHeld.1.mono HB.out.size))
      clear hHeld q8 q16
      cases bd
      · rcases HGW.out rfl with ⟨rfl, rfl, rfl⟩ | ⟨rfl, rfl, h1, h2⟩ | ⟨rfl, h1, h2, h3, h4, h5, h6, h7⟩
        all_goals
          clear HBW HGW
          try have hvn : (v != 0) = true := bne_iff_ne.2 (by omega)
          try have hvb : (v == 0) = false := beq_eq_false_iff_ne.2 (by omega)
          try have heb : (e == 0) = false := beq_eq_false_iff_ne.2 (by omega)
          try have hen : (e != 0) = true := bne_iff_ne.2 (by omega)
          try have hv0 : (0 : Int) < v := by omega
          cases sm
          all_goals
            go_wp2_with fail
            refine ⟨⟨k + 1, by omega, by go_num, by rw [HAS.out] <;> rfl, fun j hj => ?_, HBD2.out⟩, by simp [intOf]; omega⟩
            by_cases hjk : j = k
            · rw [hjk]; exact HBD.out
            · exact HG.out j (by omega)
      · have hR : rightT t = false := by
          rw [rightT, show (List.range 8).all (fun i => !badT t i) = false from List.all_eq_false.2 ⟨k, List.mem_range.2 hk7, by rw [HBD.out]; decide⟩, Bool.false_and]
        have HRR := Lib.hid hR
        clear hR
        have HE : e = 0 ∨ (e ≠ 0 ∧ (e == 0) = false ∧ (e != 0) = true) := by
          by_cases he : e = 0
          · exact .inl he
          · exact .inr ⟨he, beq_eq_false_iff_ne.2 he, bne_iff_ne.2 he⟩
        rcases HBW.out rfl with h | ⟨h1, h⟩ | ⟨h1, h2, h⟩ | ⟨h1, h2, h3, h⟩ | ⟨h1, h2, h3, h4, rfl, h⟩ | ⟨h1, h2, rfl, rfl, h⟩ | ⟨h1, h2, rfl, h3, rfl⟩
        all_goals
          clear HBW HGW
          try have hvn : (v != 0) = true := bne_iff_ne.2 (by omega)
          try have hvb : (v == 0) = false := beq_eq_false_iff_ne.2 (by omega)
          try have hv0 : (0 : Int) < v := by omega
          rcases HE with he | ⟨he, heb, hen⟩
          all_goals
            try subst he
            try omega
          all_goals
            go_wp2_with fail
            go_ret
            rw [HRR.out]
            exact ⟨rfl, by first | exact HB1.out.trans (HBD2.out.mono (Nat.le_of_lt hz1)) | (rw [hgb]; exact HB1.out.trans (HBD2.out.mono (Nat.le_of_lt hz1)))⟩
end Go.Proofs.Ytdlfjbllmmkmkaa.Chair
