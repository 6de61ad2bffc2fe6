/- The last moment of terms; deals of a chair of calls have terms that may be. -/
import Derived.Test.YtdlfjbllmmkmkaaPlayed
import Derived.Test.YtdlfjbllmmkmkaaOpen
namespace Go.Proofs.Ytdlfjbllmmkmkaa.Chair
open Go.RowKit Flat ChairSpec Go.Proofs.YtdlfjbllmmkmkaaW.PrintLast
set_option linter.unusedSimpArgs false
set_option linter.unusedVariables false
set_option maxRecDepth 100000
theorem last_bounds (t : Te) : 0 ≤ lastTe t ∧ lastTe t ≤ 1099511627776 := by
  unfold lastTe
  split
  · rename_i h
    simp only [rightTe, Bool.and_eq_true, decide_eq_true_eq] at h
    obtain ⟨⟨hb, h1⟩, h2⟩ := h
    have := left_bounds hb
    simp only [baseTe, decide_eq_true_eq] at hb
    omega
  · omega
set_option maxHeartbeats 2000000 in
theorem last_te (t : Te) (w : World) : Calls Try.prog 21 #[.agg #[.int .i64 t.dl, .int .i64 t.span, .int .i64 t.used, .int .i64 t.cap]] w fun r w' => r = .returned (.int .i64 (lastTe t)) ∧ Below w.heap.size w w' := by
  have HR := Lib.hid (fun W => right_te t W)
  cases hr : rightTe t
  · have HO : Hid (lastTe t = 0) := Lib.hid (by rw [lastTe, hr]; rfl)
    simp only [hr] at HR
    clear hr
    go_enter Try.func21, Try.ntmps21
    go_wp2_with fail
    generalize hv1 : World.alloc w _ = v1
    obtain ⟨hb1, hz1, hc1⟩ := alloc_facts hv1
    have q0 := hc1 0
    have q1 := hc1 1
    have q2 := hc1 2
    have q3 := hc1 3
    have HB := Lib.hid hb1
    clear hv1 hc1 hb1
    generalize hgb : w.heap.size = gb at *
    refine (HR.out _).mono ?_
    rintro r v2 ⟨rfl, hb2⟩
    have HB2 := Lib.hid (HB.out.trans (hb2.mono (Nat.le_of_lt hz1)))
    clear hb2
    go_wp2_with fail
    go_ret
    rw [HO.out]
    exact ⟨rfl, by rw [hgb]; exact HB2.out⟩
  · have hb : baseTe t = true := by
      simp only [rightTe, Bool.and_eq_true] at hr
      exact hr.1.1
    have hbd := last_bounds t
    have hl := left_bounds hb
    have HO : Hid (lastTe t = t.dl + leftTe t) := Lib.hid (by rw [lastTe, hr]; rfl)
    rw [HO.out] at hbd
    have hw : wrap64 (t.dl + leftTe t) = t.dl + leftTe t := by unfold wrap64; omega
    have HL := Lib.hid (fun W => left_any t hb W)
    simp only [hr] at HR
    clear hr hb
    go_enter Try.func21, Try.ntmps21
    go_wp2_with fail
    generalize hv1 : World.alloc w _ = v1
    obtain ⟨hb1, hz1, hc1⟩ := alloc_facts hv1
    have q0 := hc1 0
    have q1 := hc1 1
    have q2 := hc1 2
    have q3 := hc1 3
    have HB := Lib.hid hb1
    clear hv1 hc1 hb1
    generalize hgb : w.heap.size = gb at *
    refine (HR.out _).mono ?_
    rintro r v2 ⟨rfl, hb2⟩
    have p0 := (hb2.cell (p := ⟨gb, 0, none⟩) hz1).trans q0
    have p1 := (hb2.cell (p := ⟨gb, 1, none⟩) hz1).trans q1
    have p2 := (hb2.cell (p := ⟨gb, 2, none⟩) hz1).trans q2
    have p3 := (hb2.cell (p := ⟨gb, 3, none⟩) hz1).trans q3
    have hz2 := Nat.lt_of_lt_of_le hz1 hb2.size
    have HB2 := Lib.hid (HB.out.trans (hb2.mono (Nat.le_of_lt hz1)))
    clear hb2 q0 q1 q2 q3
    go_wp2_with fail
    refine start_ (n := 6) (S := fun w' => Below v2.heap.size v2 w' ∧ w'.cell? ⟨gb, 0, none⟩ = some (.int .i64 t.dl) ∧ w'.cell? ⟨gb, 1, none⟩ = some (.int .i64 t.span) ∧ w'.cell? ⟨gb, 2, none⟩ = some (.int .i64 t.used) ∧ w'.cell? ⟨gb, 3, none⟩ = some (.int .i64 t.cap)) (ds := []) #[false, false, false, false, false, false] (by kernel_rfl) rfl rfl ⟨(still_drew v2).1, p0, p1, p2, p3⟩ (fun hHeld => ?_)
    refine pure_ (i := 0) (N := some 6) (v := ?_) (a' := ?_) #[true, false, false, false, false, false] rfl rfl (by kernel_rfl) (fun _ _ _ h => h) (Or.inl ⟨by rfl, ?_⟩) ?_ ?_
    rotate_left
    · intro w'
      go_simp
      with_reducible rfl
    rotate_left
    · simp only [Act.put, List.setIfInBounds_toArray, List.set_cons_zero, List.set_cons_succ, i64_w, i32_w]
      rfl
    refine take_ (i := 1) (N := some 7) (v := ?_) (a' := ?_) #[true, true, false, false, false, false] rfl rfl (by kernel_rfl) (fun _ _ _ h => h) (Or.inl ⟨by rfl, ?_⟩) hHeld ?_ ?_
    rotate_left
    · rintro w' ⟨s0, s1, s2, s3, s4⟩
      go_simp
      with_reducible rfl
    rotate_left
    · simp only [Act.put, List.setIfInBounds_toArray, List.set_cons_zero, List.set_cons_succ, i64_w, i32_w]
      rfl
    refine take_ (i := 2) (N := some 8) (v := ?_) (a' := ?_) #[true, true, true, false, false, false] rfl rfl (by kernel_rfl) (fun _ _ _ h => h) (Or.inl ⟨by rfl, ?_⟩) hHeld ?_ ?_
    rotate_left
    · rintro w' ⟨s0, s1, s2, s3, s4⟩
      go_simp
      with_reducible rfl
    rotate_left
    · simp only [Act.put, List.setIfInBounds_toArray, List.set_cons_zero, List.set_cons_succ, i64_w, i32_w]
      rfl
    refine one_ (i := 3) (N := some 9) #[true, true, true, true, false, false] rfl rfl (by kernel_rfl) (by decide) (fun K hK => ?_)
    refine goes_ Try.func31 (by kernel_rfl) rfl #[.agg #[.int .i64 t.dl, .int .i64 t.span, .int .i64 t.used, .int .i64 t.cap]] (by rfl) rfl rfl (by simp only [List.map_toArray, List.map_cons, List.map_nil]; rfl) ?_
    refine (HL.out _).mono ?_
    rintro r w3 ⟨rfl, hb3⟩
    refine ⟨_, rfl, ?_⟩
    refine hK.out _ _ ⟨hHeld.1.trans (hb3.mono hHeld.1.size), (hb3.cell (p := ⟨gb, 0, none⟩) (Nat.lt_of_lt_of_le hz2 hHeld.1.size)).trans hHeld.2.1, (hb3.cell (p := ⟨gb, 1, none⟩) (Nat.lt_of_lt_of_le hz2 hHeld.1.size)).trans hHeld.2.2.1, (hb3.cell (p := ⟨gb, 2, none⟩) (Nat.lt_of_lt_of_le hz2 hHeld.1.size)).trans hHeld.2.2.2.1, (hb3.cell (p := ⟨gb, 3, none⟩) (Nat.lt_of_lt_of_le hz2 hHeld.1.size)).trans hHeld.2.2.2.2⟩ (fun hHeld => ?_)
    clear hK K
    refine norm_ (a' := ?_) ?_ ?_
    rotate_left
    · show Act.put _ (some 9) _ = _
      simp only [Act.put, List.setIfInBounds_toArray, List.set_cons_zero, List.set_cons_succ, i64_w, i32_w]
      rfl
    refine pure_ (i := 4) (N := some 10) (v := ?_) (a' := ?_) #[true, true, true, true, true, false] rfl rfl (by kernel_rfl) (fun _ _ _ h => h) (Or.inl ⟨by rfl, ?_⟩) ?_ ?_
    rotate_left
    · intro w'
      go_simp
      with_reducible rfl
    rotate_left
    · simp only [Act.put, List.setIfInBounds_toArray, List.set_cons_zero, List.set_cons_succ, i64_w, i32_w]
      rfl
    refine pure_ (i := 5) (N := some 2) (v := ?_) (a' := ?_) #[true, true, true, true, true, true] rfl rfl (by kernel_rfl) (fun _ _ _ h => h) (Or.inl ⟨by rfl, ?_⟩) ?_ ?_
    rotate_left
    · intro w'
      go_simp
      with_reducible rfl
    rotate_left
    · simp only [Act.put, List.setIfInBounds_toArray, List.set_cons_zero, List.set_cons_succ, i64_w, i32_w]
      rfl
    refine done_ (by kernel_rfl) ?_

    go_wp2_with fail
    go_ret
    rw [HO.out]
    exact ⟨rfl, by rw [hgb]; exact HB2.out.trans (hHeld.1.mono (Nat.le_of_lt (by have := HB2.out.size; omega)))⟩

/-! ### each deal of a chair of calls has terms that may be -/
def GoodCh (s : Ch) : Prop := ∀ k d, s.deals k = some d → rightTe d.te = true
theorem new_right {now span most : Int} (h : (newTe now span most).2 = 0) : rightTe (newTe now span most).1 = true := by
  unfold newTe at h ⊢
  split
  · rename_i h1; rw [if_pos h1] at h; cases h
  · rename_i h1
    rw [if_neg h1] at h
    split
    · assumption
    · rename_i h2; rw [if_neg h2] at h; cases h
theorem extend_right {t : Te} {now : Int} (h : (extendTe t now).2 = 0) : rightTe (extendTe t now).1 = true := by
  unfold extendTe at h ⊢
  split
  · rename_i h1; rw [if_pos h1] at h; cases h
  · rename_i h1
    rw [if_neg h1] at h
    split
    · rename_i h2; rw [if_pos h2] at h; cases h
    · rename_i h2
      rw [if_neg h2] at h
      split
      · rename_i h3; rw [if_pos h3] at h; cases h
      · rename_i h3
        have hr : rightTe t = true := by simpa using h1
        simp only [rightTe, baseTe, leftTe, Bool.and_eq_true, decide_eq_true_eq] at hr ⊢
        obtain ⟨⟨⟨a1, a2, a3, a4, a5, a6⟩, a7⟩, a8⟩ := hr
        have e : (t.cap - (t.used + 1)) * t.span = (t.cap - t.used) * t.span - t.span := by
          rw [show t.cap - (t.used + 1) = (t.cap - t.used) - 1 by omega, Int.sub_mul, Int.one_mul]
        refine ⟨⟨⟨a1, a2, a3, a4, by omega, by omega⟩, by omega⟩, ?_⟩
        refine decide_eq_true ?_
        show t.dl + t.span ≤ 1099511627776 - (t.cap - (t.used + 1)) * t.span
        rw [e]
        have a9 : t.dl ≤ 1099511627776 - (t.cap - t.used) * t.span := of_decide_eq_true a8
        omega
theorem one_right {f : Int → Option De} {r : Re} (hf : ∀ k d, f k = some d → rightTe d.te = true) (h : (oneC f r).2 = 0) : rightTe (oneC f r).1.te = true := by
  unfold oneC at h ⊢
  cases hd : f r.tx with
  | none =>
    simp only [hd] at h ⊢
    split
    · rename_i h1
      rw [if_pos h1] at h
      unfold begunD at h ⊢
      split
      · rename_i h2; rw [if_pos h2] at h; cases h
      · rename_i h2; rw [if_neg h2] at h; exact new_right h
    · rename_i h1; rw [if_neg h1] at h; cases h
  | some d =>
    simp only [hd] at h ⊢
    have hr := hf _ _ hd
    split
    · exact hr
    · rename_i h1
      rw [if_neg h1] at h
      split
      · exact hr
      · rename_i h2
        rw [if_neg h2] at h
        split
        · unfold voteD
          split <;> exact hr
        · rename_i h3
          rw [if_neg h3] at h
          unfold extendD at h ⊢
          split
          · exact hr
          · rename_i h4; rw [if_neg h4] at h; exact extend_right h
theorem tickD_te (now : Int) (d : De) : (tickD now d).te = d.te := by unfold tickD; split <;> rfl
theorem step_good {f : Int → Option De} {r : Re} (hf : ∀ k d, f k = some d → rightTe d.te = true) : ∀ k d, (stepC f r).1 k = some d → rightTe d.te = true := by
  unfold stepC
  split
  · intro k d h
    obtain ⟨e, he, rfl⟩ := Option.map_eq_some_iff.1 h
    rw [tickD_te]; exact hf k e he
  · split
    · exact hf
    · rename_i h2
      have h0 := one_right hf (Classical.not_not.1 h2)
      intro k d h
      dsimp only [setD] at h
      split at h
      · cases h; exact h0
      · exact hf k d h
theorem do_good {s : Ch} {r : Re} (h : GoodCh s) : GoodCh (doC s r).1 := by
  unfold doC
  split
  · exact h
  · split
    · exact h
    · exact step_good h
theorem play_good (l : List Re) (k : Nat) : GoodCh (playC l k) := by
  induction k with
  | zero => intro t d h; cases h
  | succ k ih =>
    by_cases hk : k < l.length
    · rw [play_succ l k hk]; exact do_good ih
    · have e : playC l (k + 1) = playC l k := by rw [playC, playC, List.take_of_length_le (by omega), List.take_of_length_le (by omega)]
      rw [e]; exact ih
/-- Behind the last moment of its terms, a deal is over. -/
theorem over_last {t : Te} (h : rightTe t = true) {m : Int} (hm : lastTe t ≤ m) : overTe t m = true := by
  have hb : baseTe t = true := by simp only [rightTe, Bool.and_eq_true] at h; exact h.1.1
  have hl := left_bounds hb
  rw [lastTe, if_pos h] at hm
  rw [overTe, h, Bool.true_and, decide_eq_true_eq]
  omega
theorem ends_hits {f : Int → Option De} {m : Int} (h : ∀ i ∈ openN f, ∀ d, f (i : Int) = some d → overTe d.te m = true) : hits f m = ((openN f).length : Int) := by
  unfold hits openN txs
  rw [List.filter_filter, ← List.countP_eq_length_filter]
  congr 1
  refine List.countP_congr fun i hi => ?_
  cases hf : f (i : Int) with
  | none => simp [shutN, hf]
  | some d =>
    simp only [shutN, hf, Option.isSome_some, Bool.and_true, Bool.not_eq_true', decide_eq_false_iff_not, Decidable.not_not, hitD, Bool.and_eq_true, decide_eq_true_eq]
    constructor
    · exact fun a => a.1
    · intro a
      refine ⟨a, h i ?_ d hf⟩
      unfold openN txs
      refine List.mem_filter.2 ⟨List.mem_filter.2 ⟨hi, by rw [hf]; rfl⟩, by simp [shutN, hf, a]⟩
theorem ends_open {f : Int → Option De} {m : Int} (h : ∀ i ∈ openN f, ∀ d, f (i : Int) = some d → overTe d.te m = true) : openN (fun k => (f k).map (tickD m)) = [] := by
  rw [openN, List.filter_eq_nil_iff]
  intro i hi
  obtain ⟨hr, hs⟩ := List.mem_filter.1 hi
  cases hf : f (i : Int) with
  | none => simp [hf] at hs
  | some d =>
    simp only [shutN, hf, Option.map_some, Bool.not_eq_true', decide_eq_false_iff_not, Decidable.not_not]
    unfold tickD
    by_cases ho : d.out = 0
    · have hm : i ∈ openN f := List.mem_filter.2 ⟨List.mem_filter.2 ⟨hr, by rw [hf]; rfl⟩, by simp [shutN, hf, ho]⟩
      rw [if_pos ⟨ho, h i hm d hf⟩]
      exact (by decide : ¬ (2 : Int) = 0)
    · rw [if_neg (fun a => ho a.1)]
      exact ho
theorem openN_mem {f : Int → Option De} {i : Nat} (h : i ∈ openN f) : i < 1000 ∧ ∃ d, f (i : Int) = some d ∧ d.out = 0 := by
  obtain ⟨h1, h2⟩ := List.mem_filter.1 h
  obtain ⟨hr, hs⟩ := List.mem_filter.1 h1
  refine ⟨List.mem_range.1 hr, ?_⟩
  cases hf : f (i : Int) with
  | none => rw [hf] at hs; simp at hs
  | some d => exact ⟨d, rfl, by simpa [shutN, hf] using h2⟩
end Go.Proofs.Ytdlfjbllmmkmkaa.Chair
