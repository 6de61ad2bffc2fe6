/- What the program's tally answers. -/
import Derived.Test.YtdlfjbllmmkmkaaTermsNew
import Derived.Deep.MidRow
import Derived.OwnWalk
namespace Go.Proofs.Ytdlfjbllmmkmkaa.Chair
open Go.RowKit Flat ChairSpec Go.Proofs.YtdlfjbllmmkmkaaW.PrintLast
set_option linter.unusedSimpArgs false
set_option linter.unusedVariables false
set_option maxRecDepth 100000
/-- A tally's cells. -/
def wc (t : Ta) : List Value := (List.range 8).map fun i => .bool (t.who i)
def vc (t : Ta) : List Value := (List.range 8).map fun i => .int .i64 (t.votes i)
def ec (t : Ta) : List Value := (List.range 8).map fun i => .int .i64 (t.epochs i)
def tc (t : Ta) : List Value := wc t ++ (vc t ++ ec t)
theorem wc_len (t : Ta) : (wc t).length = 8 := rfl
theorem vc_len (t : Ta) : (vc t).length = 8 := rfl
theorem ec_len (t : Ta) : (ec t).length = 8 := rfl
theorem tc_len (t : Ta) : (tc t).length = 24 := rfl
theorem tc_one (t : Ta) : ∀ v ∈ tc t, v.oneCell' = true := by
  intro v hv
  simp only [tc, List.mem_append, wc, vc, ec, List.mem_map] at hv
  rcases hv with ⟨i, _, rfl⟩ | ⟨i, _, rfl⟩ | ⟨i, _, rfl⟩ <;> rfl
theorem tc_who (t : Ta) {i : Nat} (h : i < 8) : (tc t)[i]? = some (.bool (t.who i)) := by
  rw [tc, List.getElem?_append_left (by rw [wc_len]; exact h)]
  simp [wc, h]
theorem tc_vote (t : Ta) {i : Nat} (h : i < 8) : (tc t)[8 + i]? = some (.int .i64 (t.votes i)) := by
  rw [tc, List.getElem?_append_right (by rw [wc_len]; omega), wc_len, Nat.add_sub_cancel_left, List.getElem?_append_left (by rw [vc_len]; exact h)]
  simp [vc, h]
theorem tc_epoch (t : Ta) {i : Nat} (h : i < 8) : (tc t)[16 + i]? = some (.int .i64 (t.epochs i)) := by
  rw [tc, List.getElem?_append_right (by rw [wc_len]; omega), wc_len, List.getElem?_append_right (by rw [vc_len]; omega), vc_len, show 16 + i - 8 - 8 = i by omega]
  simp [ec, h]
/-- A tally lies at an offset of a block. -/
def TaAt (w : World) (b o : Nat) (t : Ta) : Prop := w.rangeAt b o (tc t)
theorem TaAt.who {w : World} {b o : Nat} {t : Ta} (h : TaAt w b o t) {i : Nat} (hi : i < 8) : w.cell? ⟨b, o + i, none⟩ = some (.bool (t.who i)) := h i _ (tc_who t hi)
theorem TaAt.vote {w : World} {b o : Nat} {t : Ta} (h : TaAt w b o t) {i : Nat} (hi : i < 8) : w.cell? ⟨b, o + (8 + i), none⟩ = some (.int .i64 (t.votes i)) := h _ _ (tc_vote t hi)
theorem TaAt.epoch {w : World} {b o : Nat} {t : Ta} (h : TaAt w b o t) {i : Nat} (hi : i < 8) : w.cell? ⟨b, o + (16 + i), none⟩ = some (.int .i64 (t.epochs i)) := h _ _ (tc_epoch t hi)
theorem TaAt.below {w w' : World} {b o : Nat} {t : Ta} (h : TaAt w b o t) (hb : Below w.heap.size w w') : TaAt w' b o t := fun j v hv => by
  have hc := h j v hv
  exact (hb.cell (p := ⟨b, o + j, none⟩) (Flat.cell_lt hc)).trans hc
theorem who_index (f : Nat → Bool) (k : Nat) (h : k < 8) (w : World) : (Instr.index 37 (.agg #[.bool (f 0), .bool (f 1), .bool (f 2), .bool (f 3), .bool (f 4), .bool (f 5), .bool (f 6), .bool (f 7)]) (.int .i64 (k : Int))).run Try.prog w = .ok (.bool (f k)) w := by
  rcases (by omega : k = 0 ∨ k = 1 ∨ k = 2 ∨ k = 3 ∨ k = 4 ∨ k = 5 ∨ k = 6 ∨ k = 7) with rfl | rfl | rfl | rfl | rfl | rfl | rfl | rfl <;> kernel_rfl
theorem eight_any (b0 b1 b2 b3 b4 b5 b6 b7 : Bool) (w : World) : (Op.equalIn 10000 37 (.agg #[.bool b0, .bool b1, .bool b2, .bool b3, .bool b4, .bool b5, .bool b6, .bool b7]) (.agg #[.bool false, .bool false, .bool false, .bool false, .bool false, .bool false, .bool false, .bool false])).run Try.prog w = .ok (!(b0 || (b1 || (b2 || (b3 || (b4 || (b5 || (b6 || (b7 || false))))))))) w := by
  cases b0
  · cases b1
    · cases b2
      · cases b3
        · cases b4
          · cases b5
            · cases b6
              · cases b7
                · kernel_rfl
                · kernel_rfl
              · kernel_rfl
            · kernel_rfl
          · kernel_rfl
        · kernel_rfl
      · kernel_rfl
    · kernel_rfl
  · kernel_rfl
theorem who_any (f : Nat → Bool) (w : World) : (Op.equalIn 10000 37 (.agg #[.bool (f 0), .bool (f 1), .bool (f 2), .bool (f 3), .bool (f 4), .bool (f 5), .bool (f 6), .bool (f 7)]) (.agg #[.bool false, .bool false, .bool false, .bool false, .bool false, .bool false, .bool false, .bool false])).run Try.prog w = .ok (!((List.range 8).any f)) w :=
  eight_any (f 0) (f 1) (f 2) (f 3) (f 4) (f 5) (f 6) (f 7) w
/-- The ways in which a place is bad, and in which it is not. -/
theorem bad_ways (t : Ta) (k : Nat) (h : badT t k = true) : t.votes k < 0 ∨ (¬ t.votes k < 0 ∧ 2 < t.votes k) ∨ (¬ t.votes k < 0 ∧ ¬ 2 < t.votes k ∧ t.epochs k < 0) ∨ (¬ t.votes k < 0 ∧ ¬ 2 < t.votes k ∧ ¬ t.epochs k < 0 ∧ 1048576 < t.epochs k) ∨
    (¬ t.votes k < 0 ∧ ¬ 2 < t.votes k ∧ ¬ t.epochs k < 0 ∧ ¬ 1048576 < t.epochs k ∧ t.who k = false ∧ ¬ t.votes k = 0) ∨ (¬ t.epochs k < 0 ∧ ¬ 1048576 < t.epochs k ∧ t.who k = false ∧ t.votes k = 0 ∧ 0 < t.epochs k) ∨
    (¬ t.votes k < 0 ∧ ¬ 2 < t.votes k ∧ t.who k = true ∧ ¬ t.votes k = 0 ∧ t.epochs k = 0) := by
  simp only [badT, decide_eq_true_eq] at h
  cases hw : t.who k <;> simp [hw] at h ⊢ <;> omega
theorem good_ways (t : Ta) (k : Nat) (h : badT t k = false) : (t.who k = false ∧ t.votes k = 0 ∧ t.epochs k = 0) ∨ (t.who k = true ∧ t.votes k = 0 ∧ ¬ t.epochs k < 0 ∧ ¬ 1048576 < t.epochs k) ∨ (t.who k = true ∧ ¬ t.votes k < 0 ∧ ¬ 2 < t.votes k ∧ ¬ t.votes k = 0 ∧ 0 < t.epochs k ∧ ¬ t.epochs k < 0 ∧ ¬ t.epochs k = 0 ∧ ¬ 1048576 < t.epochs k) := by
  simp only [badT, decide_eq_false_iff_not] at h
  cases hw : t.who k <;> simp [hw] at h ⊢ <;> omega
set_option maxHeartbeats 8000000 in
theorem right_ta (t : Ta) (w : World) : Calls Try.prog 59 #[.agg (tc t).toArray] w fun r w' => r = .returned (.bool (rightT t)) ∧ Below w.heap.size w w' := by
  have hlen : (tc t).toArray.size = 24 := by simp [tc_len]
  have e0 : (tc t)[0]'(by rw [tc_len]; decide) = .bool (t.who 0) := rfl
  have e1 : (tc t)[1]'(by rw [tc_len]; decide) = .bool (t.who 1) := rfl
  have e2 : (tc t)[2]'(by rw [tc_len]; decide) = .bool (t.who 2) := rfl
  have e3 : (tc t)[3]'(by rw [tc_len]; decide) = .bool (t.who 3) := rfl
  have e4 : (tc t)[4]'(by rw [tc_len]; decide) = .bool (t.who 4) := rfl
  have e5 : (tc t)[5]'(by rw [tc_len]; decide) = .bool (t.who 5) := rfl
  have e6 : (tc t)[6]'(by rw [tc_len]; decide) = .bool (t.who 6) := rfl
  have e7 : (tc t)[7]'(by rw [tc_len]; decide) = .bool (t.who 7) := rfl
  go_enter Try.func59, Try.ntmps59
  go_wp2_with fail
  generalize hv1 : World.alloc w _ = v1
  obtain ⟨hb1, hz1, hc1⟩ := alloc_facts hv1
  have hTA : TaAt v1 w.heap.size 0 t := fun j v hv => by rw [Nat.zero_add, hc1 j]; simpa using hv
  have HB1 := Lib.hid hb1
  have HTA := Lib.hid hTA
  clear hv1 hc1 hb1 hTA e0 e1 e2 e3 e4 e5 e6 e7 hlen
  generalize hgb : w.heap.size = gb at *
  go_loopw [9] (fun i wr => ∃ k : Nat, k ≤ 8 ∧ i = .int .i64 (k : Int) ∧ (∀ j, j < k → badT t j = false) ∧ Below v1.heap.size v1 wr) (fun i _ => 8 - (intOf i).toNat)
  case atStart => exact ⟨0, by omega, rfl, fun j hj => absurd hj (by omega), Below.refl _ _⟩
  case round =>
    obtain ⟨wo, h_wo⟩ : ∃ v : World, v = wr := ⟨_, rfl⟩; subst h_wo
    obtain ⟨k, hk, rfl, hgood, hB⟩ := hrel
    have HG := Lib.hid hgood
    have HB := Lib.hid hB
    have HTO := Lib.hid (HTA.out.below hB)
    clear hgood hB
    by_cases hk8 : k = 8
    · have hkI : ¬ (k : Int) < 8 := by omega
      have q0 := HTO.out.who (i := 0) (by decide)
      have q1 := HTO.out.who (i := 1) (by decide)
      have q2 := HTO.out.who (i := 2) (by decide)
      have q3 := HTO.out.who (i := 3) (by decide)
      have q4 := HTO.out.who (i := 4) (by decide)
      have q5 := HTO.out.who (i := 5) (by decide)
      have q6 := HTO.out.who (i := 6) (by decide)
      have q7 := HTO.out.who (i := 7) (by decide)
      simp only [Nat.zero_add] at q0 q1 q2 q3 q4 q5 q6 q7
      have hany := who_any t.who wo
      generalize hga : (List.range 8).any t.who = ga at *
      go_wp2_with fail
      go_ret
      have hR : rightT t = (List.range 8).any t.who := by
        rw [rightT, show (List.range 8).all (fun i => !badT t i) = true from List.all_eq_true.2 (fun i hi => by rw [HG.out i (by have := List.mem_range.1 hi; omega)]; rfl), Bool.true_and]
      rw [hR, hga]
      exact ⟨rfl, by first | exact HB1.out.trans (HB.out.mono (Nat.le_of_lt hz1)) | (rw [hgb]; exact HB1.out.trans (HB.out.mono (Nat.le_of_lt hz1)))⟩
    · have hk7 : k < 8 := by omega
      have hkI : (k : Int) < 8 := by omega
      have hk0 : (0 : Int) ≤ (k : Int) := by omega
      have hix := who_index t.who k hk7 wo
      have q8 := HTO.out.vote hk7
      have q16 := HTO.out.epoch hk7
      have hlt : gb < wo.heap.size := Flat.cell_lt q8
      simp only [Nat.zero_add] at q8 q16
      have HBW := Lib.hid (fun h => bad_ways t k h)
      have HGW := Lib.hid (fun h => good_ways t k h)
      obtain ⟨bd, HBD⟩ : ∃ bd, Hid (badT t k = bd) := ⟨_, Lib.hid rfl⟩
      rw [HBD.out] at HBW HGW
      generalize t.votes k = v at *
      generalize t.epochs k = e at *
      generalize t.who k = is at *
      go_wp2_with fail
      refine start_ (n := 10) (S := fun w' => Below wo.heap.size wo w' ∧ w'.cell? ⟨gb, 8 + k, none⟩ = some (.int .i64 v) ∧ w'.cell? ⟨gb, 16 + k, none⟩ = some (.int .i64 e)) (ds := []) #[false, false, false, false, false, false, false, false, false, false] (by kernel_rfl) rfl rfl ⟨(still_drew wo).1, q8, q16⟩ (fun hHeld => ?_)
      refine pure_ (i := 0) (N := some 13) (v := ?_) (a' := ?_) #[true, false, false, false, false, false, false, false, false, false] rfl rfl (by kernel_rfl) (fun _ _ _ h => h) (Or.inl ⟨by rfl, ?_⟩) ?_ ?_
      rotate_left
      · intro w'
        go_simp
        with_reducible rfl
      rotate_left
      · simp only [Act.put, List.setIfInBounds_toArray, List.set_cons_zero, List.set_cons_succ, i64_w, i32_w]
        rfl
      refine pure_ (i := 1) (N := some 14) (v := ?_) (a' := ?_) #[true, true, false, false, false, false, false, false, false, false] rfl rfl (by kernel_rfl) (fun _ _ _ h => h) (Or.inl ⟨by rfl, ?_⟩) ?_ ?_
      rotate_left
      · intro w'
        go_simp
        with_reducible rfl
      rotate_left
      · simp only [Act.put, List.setIfInBounds_toArray, List.set_cons_zero, List.set_cons_succ, i64_w, i32_w]
        rfl
      refine pure_ (i := 2) (N := some 15) (v := ?_) (a' := ?_) #[true, true, true, false, false, false, false, false, false, false] rfl rfl (by kernel_rfl) (fun _ _ _ h => h) (Or.inl ⟨by rfl, ?_⟩) ?_ ?_
      rotate_left
      · intro w'
        go_simp
        with_reducible rfl
      rotate_left
      · simp only [Act.put, List.setIfInBounds_toArray, List.set_cons_zero, List.set_cons_succ, i64_w, i32_w]
        rfl
      refine pure_ (i := 4) (N := some 17) (v := ?_) (a' := ?_) #[true, true, true, false, true, false, false, false, false, false] rfl rfl (by kernel_rfl) (fun _ _ _ h => h) (Or.inl ⟨by rfl, ?_⟩) ?_ ?_
      rotate_left
      · intro w'
        go_simp
        with_reducible rfl
      rotate_left
      · simp only [Act.put, List.setIfInBounds_toArray, List.set_cons_zero, List.set_cons_succ, i64_w, i32_w]
        rfl
      refine pure_ (i := 5) (N := some 18) (v := ?_) (a' := ?_) #[true, true, true, false, true, true, false, false, false, false] rfl rfl (by kernel_rfl) (fun _ _ _ h => h) (Or.inl ⟨by rfl, ?_⟩) ?_ ?_
      rotate_left
      · intro w'
        go_simp
        with_reducible rfl
      rotate_left
      · simp only [Act.put, List.setIfInBounds_toArray, List.set_cons_zero, List.set_cons_succ, i64_w, i32_w]
        rfl
      refine pure_ (i := 6) (N := some 19) (v := ?_) (a' := ?_) #[true, true, true, false, true, true, true, false, false, false] rfl rfl (by kernel_rfl) (fun _ _ _ h => h) (Or.inl ⟨by rfl, ?_⟩) ?_ ?_
      rotate_left
      · intro w'
        go_simp
        with_reducible rfl
      rotate_left
      · simp only [Act.put, List.setIfInBounds_toArray, List.set_cons_zero, List.set_cons_succ, i64_w, i32_w]
        rfl
      refine take_ (i := 3) (N := some 16) (v := ?_) (a' := ?_) #[true, true, true, true, true, true, true, false, false, false] rfl rfl (by kernel_rfl) (fun _ _ _ h => h) (Or.inl ⟨by rfl, ?_⟩) hHeld ?_ ?_
      rotate_left
      · rintro w' ⟨s0, s1, s2⟩
        go_simp
        with_reducible rfl
      rotate_left
      · simp only [Act.put, List.setIfInBounds_toArray, List.set_cons_zero, List.set_cons_succ, i64_w, i32_w]
        rfl
      refine pure_ (i := 8) (N := some 5) (v := ?_) (a' := ?_) #[true, true, true, true, true, true, true, false, true, false] rfl rfl (by kernel_rfl) (fun _ _ _ h => h) (Or.inl ⟨by rfl, ?_⟩) ?_ ?_
      rotate_left
      · intro w'
        go_simp
        with_reducible rfl
      rotate_left
      · simp only [Act.put, List.setIfInBounds_toArray, List.set_cons_zero, List.set_cons_succ, i64_w, i32_w]
        rfl
      refine take_ (i := 7) (N := some 20) (v := ?_) (a' := ?_) #[true, true, true, true, true, true, true, true, true, false] rfl rfl (by kernel_rfl) (fun _ _ _ h => h) (Or.inl ⟨by rfl, ?_⟩) hHeld ?_ ?_
      rotate_left
      · rintro w' ⟨s0, s1, s2⟩
        go_simp
        with_reducible rfl
      rotate_left
      · simp only [Act.put, List.setIfInBounds_toArray, List.set_cons_zero, List.set_cons_succ, i64_w, i32_w]
        rfl
      refine pure_ (i := 9) (N := some 6) (v := ?_) (a' := ?_) #[true, true, true, true, true, true, true, true, true, true] rfl rfl (by kernel_rfl) (fun _ _ _ h => h) (Or.inl ⟨by rfl, ?_⟩) ?_ ?_
      rotate_left
      · intro w'
        go_simp
        with_reducible rfl
      rotate_left
      · simp only [Act.put, List.setIfInBounds_toArray, List.set_cons_zero, List.set_cons_succ, i64_w, i32_w]
        rfl
      refine done_ (by kernel_rfl) ?_

      have HBD2 := Lib.hid (HB.out.trans (hHeld.1.mono HB.out.size))
      clear hHeld q8 q16 hix
      cases bd
      · rcases HGW.out rfl with ⟨rfl, rfl, rfl⟩ | ⟨rfl, rfl, h1, h2⟩ | ⟨rfl, h1, h2, h3, h4, h5, h6, h7⟩
        all_goals
          clear HBW HGW
          try have hvn : (v != 0) = true := bne_iff_ne.2 (by omega)
          try have hvb : (v == 0) = false := beq_eq_false_iff_ne.2 (by omega)
          try have heb : (e == 0) = false := beq_eq_false_iff_ne.2 (by omega)
          go_wp2_with fail
          refine ⟨⟨k + 1, by omega, by go_num, fun j hj => ?_, HBD2.out⟩, by simp [intOf]; omega⟩
          by_cases hjk : j = k
          · rw [hjk]; exact HBD.out
          · exact HG.out j (by omega)
      · have hR : rightT t = false := by
          rw [rightT, show (List.range 8).all (fun i => !badT t i) = false from List.all_eq_false.2 ⟨k, List.mem_range.2 hk7, by rw [HBD.out]; decide⟩, Bool.false_and]
        have HRR := Lib.hid hR
        clear hR
        rcases HBW.out rfl with h | ⟨h1, h⟩ | ⟨h1, h2, h⟩ | ⟨h1, h2, h3, h⟩ | ⟨h1, h2, h3, h4, rfl, h⟩ | ⟨h1, h2, rfl, rfl, h⟩ | ⟨h1, h2, rfl, h3, rfl⟩
        all_goals
          clear HBW HGW
          try have hvn : (v != 0) = true := bne_iff_ne.2 (by omega)
          try have hvb : (v == 0) = false := beq_eq_false_iff_ne.2 (by omega)
          try have heb : (e == 0) = false := beq_eq_false_iff_ne.2 (by omega)
          go_wp2_with fail
          go_ret
          rw [HRR.out]
          exact ⟨rfl, by first | exact HB1.out.trans (HBD2.out.mono (Nat.le_of_lt hz1)) | (rw [hgb]; exact HB1.out.trans (HBD2.out.mono (Nat.le_of_lt hz1)))⟩
end Go.Proofs.Ytdlfjbllmmkmkaa.Chair
