/- What 'Encode' and 'Decode' of package lease, and the reference's, answer. -/
import Derived.Test.YtebdjaagdfbbgaaDoorLeaseNum
import Derived.Test.YtebdjaagdfbbgaaDoorWLast
namespace Go.Proofs.YtebdjaagdfbbgaaDoor.LeaseCode
open Go.RowKit CodeSpec LeaseSpec Flat CodeMem Lease LeaseNum Go.Proofs.YtebdjaagdfbbgaaDoorW.PrintLast
set_option linter.unusedSimpArgs false
set_option linter.unusedVariables false
set_option maxRecDepth 100000

def acaS : ByteArray := ⟨#[97, 99, 97]⟩
theorem acaS_list : acaS.data.toList = aca := rfl
theorem wrap8 (n : Nat) (h : n < 18446744073709551616) : IntKind.u64.wrap (n : Int) = n := by simp [IntKind.wrap, IntKind.bits, IntKind.signed]; omega
theorem n_any (n : Int) (w : World) : Calls Tryd.prog 16 #[.int .u64 n] w fun e w' => e = .returned (.agg #[.int .u64 n, .string ⟨#[]⟩]) ∧ Below w.heap.size w w' := by
  go_enter Tryd.func16, Tryd.ntmps16
  go_wp2
  all_goals (simp [bodyPost, results, Tryd.results16, go_sem, *])
  all_goals repeat (first | (with_reducible exact Below.refl _ _) | (with_reducible assumption) | (with_reducible refine bw_alloc ?_) | (with_reducible refine bw_drew ?_) | (with_reducible refine bw_drewN ?_) | (with_reducible refine bw_set ?_ (by first | (simp; done) | (dsimp only; omega))) | (with_reducible refine bw_via (by assumption) ?_))

/-- Three values in a block of one's own. -/
theorem three_in {w w' : World} {e s t : Nat} {T : TypeId} (hs : s < 256) (he : e < 4294967296) (ht : t < 256)
    (h : World.alloc w (.cells #[.int .u64 (s : Int), .string ⟨#[]⟩, .int .u64 (e : Int), .string ⟨#[]⟩, .int .u64 (t : Int), .string ⟨#[]⟩] T) = w') : IsVals w' (.slice (some ⟨w.heap.size, 0, none⟩) 3 3) (three s e t) ∧ Below w.heap.size w w' := by
  obtain ⟨B4, z4, k4⟩ := alloc_facts h
  have z0 : noS.size ≤ maxLen := by unfold maxLen; decide
  refine ⟨⟨_, 3, rfl, (by show 3 ≤ maxLen; unfold maxLen; decide), ?_, fun _ => ⟨w.heap.size, 0, rfl, z4, ?_⟩⟩, B4⟩
  · intro x hx
    simp [three] at hx
    rcases hx with rfl | rfl | rfl
    · exact ⟨by show s < _; omega, z0⟩
    · exact ⟨by show e < _; omega, z0⟩
    · exact ⟨by show t < _; omega, z0⟩
  · intro i hi
    match i, hi with
    | 0, _ => exact ⟨k4 0, k4 1⟩
    | 1, _ => exact ⟨k4 2, k4 3⟩
    | 2, _ => exact ⟨k4 4, k4 5⟩

set_option maxHeartbeats 1000000 in
theorem encode_any (e s t : Int) (w : World) (h0 : 0 ≤ t) : Calls Tryd.prog 5 #[.agg #[.int .i64 e, .int .i64 s, .int .u8 t]] w (EncUse (lenc e s t) w) := by
  by_cases hr : rightB e s t = true
  · obtain ⟨b1, b2, b3, b4, b5⟩ := right_bounds hr
    obtain ⟨s, rfl⟩ := Int.eq_ofNat_of_zero_le b1
    obtain ⟨e, rfl⟩ := Int.eq_ofNat_of_zero_le b3
    obtain ⟨t, rfl⟩ := Int.eq_ofNat_of_zero_le h0
    obtain ⟨o, hL⟩ : ∃ o, lenc e s t = (o, 0) := ⟨_, by rw [lenc, if_neg (by simp [hr])]⟩
    have hE : enc acaS.data.toList (three s e t) = (o, 0) := by
      rw [acaS_list, aca_fits (by omega) (by omega) (by omega)]
      rw [lenc, if_neg (by simp [hr])] at hL
      exact hL
    rw [hL]
    have ws := wrap8 s (by omega)
    have we := wrap8 e (by omega)
    have wt := wrap8 t (by omega)
    go_enter Tryd.func5, Tryd.ntmps5
    go_wp2_with fail
    refine (right_any _ _ _ _).mono ?_
    rw [hr]
    rintro r v1 ⟨rfl, hb1⟩
    obtain ⟨c_hb1, f_hb1, z_hb1⟩ := bcell hb1; have z0_hb1 := z_hb1 (w.heap.size) (by first | omega | (simp only [World.size_alloc, World.size_setCell, World.size_drew, World.heap_drewN] <;> omega)); clear z_hb1
    go_wp2_with fail
    generalize h4 : World.alloc v1 _ = w4
    obtain ⟨hv, hB4⟩ := three_in (by omega) (by omega) (by omega) h4
    clear h4
    have HX := encode_use acaS _ (three s e t) w4 (by unfold maxLen; decide) hv
    rw [hE] at HX
    refine HX.mono ?_
    rintro r w5 ⟨a, cap, rfl, h1, h2, h3, hb5⟩
    have hB1 : Below w.heap.size w v1 := by repeat (first | (with_reducible exact Below.refl _ _) | (with_reducible assumption) | (with_reducible refine bw_alloc ?_) | (with_reducible refine bw_drew ?_) | (with_reducible refine bw_drewN ?_) | (with_reducible refine bw_set ?_ (by first | (simp; done) | (dsimp only; omega))) | (with_reducible refine bw_via (by assumption) ?_))
    have hB5 : Below w.heap.size w w5 := hB1.trans ((hB4.trans (hb5.mono hB4.size)).mono hB1.size)
    go_wp2_with fail
    go_ret2
    exact ⟨a, cap, rfl, h1, h2, h3, hB5⟩
  · simp at hr
    have hL : lenc e s t = ([], 2) := by rw [lenc, if_pos hr]
    rw [hL]
    go_enter Tryd.func5, Tryd.ntmps5
    go_wp2_with fail
    refine (right_any _ _ _ _).mono ?_
    rw [hr]
    rintro r v1 ⟨rfl, hb1⟩
    go_wp2_with fail
    go_ret2
    refine ⟨none, 0, rfl, Nat.le_refl _, by unfold maxLen; decide, fun h => absurd h (by simp), ?_⟩
    repeat (first | (with_reducible exact Below.refl _ _) | (with_reducible assumption) | (with_reducible refine bw_alloc ?_) | (with_reducible refine bw_drew ?_) | (with_reducible refine bw_drewN ?_) | (with_reducible refine bw_set ?_ (by first | (simp; done) | (dsimp only; omega))) | (with_reducible refine bw_via (by assumption) ?_))

set_option maxHeartbeats 1000000 in
theorem rencode_any (e s t : Int) (w : World) (h0 : 0 ≤ t) : Calls Tryd.prog 6 #[.agg #[.int .i64 e, .int .i64 s, .int .u8 t]] w (EncUse (lenc e s t) w) := by
  by_cases hr : rightB e s t = true
  · obtain ⟨b1, b2, b3, b4, b5⟩ := right_bounds hr
    obtain ⟨s, rfl⟩ := Int.eq_ofNat_of_zero_le b1
    obtain ⟨e, rfl⟩ := Int.eq_ofNat_of_zero_le b3
    obtain ⟨t, rfl⟩ := Int.eq_ofNat_of_zero_le h0
    obtain ⟨o, hL⟩ : ∃ o, lenc e s t = (o, 0) := ⟨_, by rw [lenc, if_neg (by simp [hr])]⟩
    have hE : enc acaS.data.toList (three s e t) = (o, 0) := by
      rw [acaS_list, aca_fits (by omega) (by omega) (by omega)]
      rw [lenc, if_neg (by simp [hr])] at hL
      exact hL
    rw [hL]
    have ws := wrap8 s (by omega)
    have we := wrap8 e (by omega)
    have wt := wrap8 t (by omega)
    have HX := fun u w h => rencode_use acaS u (three s e t) w (by unfold maxLen; decide) h
    rw [hE] at HX
    go_enter Tryd.func6, Tryd.ntmps6
    go_wp2_with fail
    refine (right_ref _ _ _ _).mono ?_
    rw [hr]
    rintro r v1 ⟨rfl, hb1⟩
    have hB1 : Below w.heap.size w v1 := by repeat (first | (with_reducible exact Below.refl _ _) | (with_reducible assumption) | (with_reducible refine bw_alloc ?_) | (with_reducible refine bw_drew ?_) | (with_reducible refine bw_drewN ?_) | (with_reducible refine bw_set ?_ (by first | (simp; done) | (dsimp only; omega))) | (with_reducible refine bw_via (by assumption) ?_))
    have hZ : w.heap.size < v1.heap.size := by have := hb1.size; simp at this; omega
    have k0 : v1.cell? ⟨w.heap.size, 0, none⟩ = some (.int .i64 (e : Int)) := by rw [hb1.cell (p := ⟨w.heap.size, 0, none⟩) (by simp)]; simp
    have k1 : v1.cell? ⟨w.heap.size, 1, none⟩ = some (.int .i64 (s : Int)) := by rw [hb1.cell (p := ⟨w.heap.size, 1, none⟩) (by simp)]; simp
    have k2 : v1.cell? ⟨w.heap.size, 2, none⟩ = some (.int .u8 (t : Int)) := by rw [hb1.cell (p := ⟨w.heap.size, 2, none⟩) (by simp)]; simp
    clear hb1
    go_wp2_with fail
    refine start_ (n := 19) (S := fun w' => w'.cell? ⟨w.heap.size, 0, none⟩ = some (.int .i64 (e : Int)) ∧ w'.cell? ⟨w.heap.size, 1, none⟩ = some (.int .i64 (s : Int)) ∧ w'.cell? ⟨w.heap.size, 2, none⟩ = some (.int .u8 (t : Int))) (ds := [13]) #[false, false, false, false, false, false, false, false, false, false, false, false, false, false, false, false, false, false, false] (by kernel_rfl) rfl rfl ⟨k0, k1, k2⟩ (fun hHeld => ?_)
    refine pure_ (i := 0) (N := some 10) (v := ?_) (a' := ?_) #[true, false, false, false, false, false, false, false, false, false, false, false, false, false, false, false, false, false, false] rfl rfl (by kernel_rfl) (fun _ _ _ h => h) (Or.inl ⟨by rfl, ?_⟩) ?_ ?_
    rotate_left
    · intro w'
      go_simp
      with_reducible rfl
    rotate_left
    · simp only [Act.put, List.setIfInBounds_toArray, List.set_cons_zero, List.set_cons_succ, i64_w, i32_w]
      rfl
    refine pure_ (i := 4) (N := some 14) (v := ?_) (a' := ?_) #[true, false, false, false, true, false, false, false, false, false, false, false, false, false, false, false, false, false, false] rfl rfl (by kernel_rfl) (fun _ _ _ h => h) (Or.inl ⟨by rfl, ?_⟩) ?_ ?_
    rotate_left
    · intro w'
      go_simp
      with_reducible rfl
    rotate_left
    · simp only [Act.put, List.setIfInBounds_toArray, List.set_cons_zero, List.set_cons_succ, i64_w, i32_w]
      rfl
    refine pure_ (i := 8) (N := some 18) (v := ?_) (a' := ?_) #[true, false, false, false, true, false, false, false, true, false, false, false, false, false, false, false, false, false, false] rfl rfl (by kernel_rfl) (fun _ _ _ h => h) (Or.inl ⟨by rfl, ?_⟩) ?_ ?_
    rotate_left
    · intro w'
      go_simp
      with_reducible rfl
    rotate_left
    · simp only [Act.put, List.setIfInBounds_toArray, List.set_cons_zero, List.set_cons_succ, i64_w, i32_w]
      rfl
    refine take_ (i := 1) (N := some 11) (v := ?_) (a' := ?_) #[true, true, false, false, true, false, false, false, true, false, false, false, false, false, false, false, false, false, false] rfl rfl (by kernel_rfl) (fun _ _ _ h => h) (Or.inl ⟨by rfl, ?_⟩) hHeld ?_ ?_
    rotate_left
    · rintro w' ⟨s0, s1, s2⟩
      go_simp
      with_reducible rfl
    rotate_left
    · simp only [Act.put, List.setIfInBounds_toArray, List.set_cons_zero, List.set_cons_succ, i64_w, i32_w]
      rfl
    refine pure_ (i := 2) (N := some 12) (v := ?_) (a' := ?_) #[true, true, true, false, true, false, false, false, true, false, false, false, false, false, false, false, false, false, false] rfl rfl (by kernel_rfl) (fun _ _ _ h => h) (Or.inl ⟨by rfl, ?_⟩) ?_ ?_
    rotate_left
    · intro w'
      go_simp
      with_reducible rfl
    rotate_left
    · simp only [Act.put, List.setIfInBounds_toArray, List.set_cons_zero, List.set_cons_succ, i64_w, i32_w]
      rfl
    refine take_ (i := 5) (N := some 15) (v := ?_) (a' := ?_) #[true, true, true, false, true, true, false, false, true, false, false, false, false, false, false, false, false, false, false] rfl rfl (by kernel_rfl) (fun _ _ _ h => h) (Or.inl ⟨by rfl, ?_⟩) hHeld ?_ ?_
    rotate_left
    · rintro w' ⟨s0, s1, s2⟩
      go_simp
      with_reducible rfl
    rotate_left
    · simp only [Act.put, List.setIfInBounds_toArray, List.set_cons_zero, List.set_cons_succ, i64_w, i32_w]
      rfl
    refine pure_ (i := 6) (N := some 16) (v := ?_) (a' := ?_) #[true, true, true, false, true, true, true, false, true, false, false, false, false, false, false, false, false, false, false] rfl rfl (by kernel_rfl) (fun _ _ _ h => h) (Or.inl ⟨by rfl, ?_⟩) ?_ ?_
    rotate_left
    · intro w'
      go_simp
      with_reducible rfl
    rotate_left
    · simp only [Act.put, List.setIfInBounds_toArray, List.set_cons_zero, List.set_cons_succ, i64_w, i32_w]
      rfl
    refine take_ (i := 9) (N := some 19) (v := ?_) (a' := ?_) #[true, true, true, false, true, true, true, false, true, true, false, false, false, false, false, false, false, false, false] rfl rfl (by kernel_rfl) (fun _ _ _ h => h) (Or.inl ⟨by rfl, ?_⟩) hHeld ?_ ?_
    rotate_left
    · rintro w' ⟨s0, s1, s2⟩
      go_simp
      with_reducible rfl
    rotate_left
    · simp only [Act.put, List.setIfInBounds_toArray, List.set_cons_zero, List.set_cons_succ, i64_w, i32_w]
      rfl
    refine pure_ (i := 10) (N := some 20) (v := ?_) (a' := ?_) #[true, true, true, false, true, true, true, false, true, true, true, false, false, false, false, false, false, false, false] rfl rfl (by kernel_rfl) (fun _ _ _ h => h) (Or.inl ⟨by rfl, ?_⟩) ?_ ?_
    rotate_left
    · intro w'
      go_simp
      with_reducible rfl
    rotate_left
    · simp only [Act.put, List.setIfInBounds_toArray, List.set_cons_zero, List.set_cons_succ, i64_w, i32_w]
      rfl
    refine one_ (i := 3) (N := some 13) #[true, true, true, true, true, true, true, false, true, true, true, false, false, false, false, false, false, false, false] rfl rfl (by kernel_rfl) (by decide) (fun K hK => ?_)
    refine goes_ Tryd.func16 (by kernel_rfl) rfl #[.int .u64 (s : Int)] (by rfl) rfl rfl (by simp only [List.map_toArray, List.map_cons, List.map_nil]; rfl) ?_
    refine (n_any (s : Int) _).mono ?_
    rintro e w2 ⟨rfl, hb2⟩
    refine ⟨_, rfl, ?_⟩
    refine hK.out _ _ ⟨(hb2.cell (p := ⟨w.heap.size, 0, none⟩) hZ).trans k0, (hb2.cell (p := ⟨w.heap.size, 1, none⟩) hZ).trans k1, (hb2.cell (p := ⟨w.heap.size, 2, none⟩) hZ).trans k2⟩ (fun hHeld => ?_)
    clear hK K
    refine norm_ (a' := ?_) ?_ ?_
    rotate_left
    · show Act.put _ (some 13) _ = _
      simp only [Act.put, List.setIfInBounds_toArray, List.set_cons_zero, List.set_cons_succ, i64_w, i32_w]
      rfl
    refine one_ (i := 7) (N := some 17) #[true, true, true, true, true, true, true, true, true, true, true, false, false, false, false, false, false, false, false] rfl rfl (by kernel_rfl) (by decide) (fun K hK => ?_)
    refine goes_ Tryd.func16 (by kernel_rfl) rfl #[.int .u64 (e : Int)] (by rfl) rfl rfl (by simp only [List.map_toArray, List.map_cons, List.map_nil]; rfl) ?_
    refine (n_any (e : Int) _).mono ?_
    rintro e w3 ⟨rfl, hb3⟩
    refine ⟨_, rfl, ?_⟩
    have hB3 := hb2.trans (hb3.mono hb2.size)
    refine hK.out _ _ ⟨(hB3.cell (p := ⟨w.heap.size, 0, none⟩) hZ).trans k0, (hB3.cell (p := ⟨w.heap.size, 1, none⟩) hZ).trans k1, (hB3.cell (p := ⟨w.heap.size, 2, none⟩) hZ).trans k2⟩ (fun hHeld => ?_)
    clear hK K
    refine norm_ (a' := ?_) ?_ ?_
    rotate_left
    · show Act.put _ (some 17) _ = _
      simp only [Act.put, List.setIfInBounds_toArray, List.set_cons_zero, List.set_cons_succ, i64_w, i32_w]
      rfl
    refine one_ (i := 11) (N := some 21) #[true, true, true, true, true, true, true, true, true, true, true, true, false, false, false, false, false, false, false] rfl rfl (by kernel_rfl) (by decide) (fun K hK => ?_)
    refine goes_ Tryd.func16 (by kernel_rfl) rfl #[.int .u64 (t : Int)] (by rfl) rfl rfl (by simp only [List.map_toArray, List.map_cons, List.map_nil]; rfl) ?_
    refine (n_any (t : Int) _).mono ?_
    rintro e w4 ⟨rfl, hb4⟩
    refine ⟨_, rfl, ?_⟩
    have hB4 := hB3.trans (hb4.mono hB3.size)
    refine hK.out _ _ ⟨(hB4.cell (p := ⟨w.heap.size, 0, none⟩) hZ).trans k0, (hB4.cell (p := ⟨w.heap.size, 1, none⟩) hZ).trans k1, (hB4.cell (p := ⟨w.heap.size, 2, none⟩) hZ).trans k2⟩ (fun hHeld => ?_)
    clear hK K
    refine norm_ (a' := ?_) ?_ ?_
    rotate_left
    · show Act.put _ (some 21) _ = _
      simp only [Act.put, List.setIfInBounds_toArray, List.set_cons_zero, List.set_cons_succ, i64_w, i32_w]
      rfl
    refine one_ (i := 12) (N := some 22) #[true, true, true, true, true, true, true, true, true, true, true, true, true, false, false, false, false, false, false] rfl rfl (by kernel_rfl) (by decide) (fun K hK => ?_)
    refine value_ (w1 := ?_) (v := ?_) (by rfl) rfl ?_ ?_
    rotate_left 2
    · go_simp
      constructor
      · rfl
      · rfl
    generalize hW5 : World.alloc _ _ = w5
    obtain ⟨hv5, hb5⟩ := three_in (by omega) (by omega) (by omega) hW5
    clear hW5
    have hB5 := hB4.trans (hb5.mono hB4.size)
    refine hK.out _ _ ⟨(hB5.cell (p := ⟨w.heap.size, 0, none⟩) hZ).trans k0, (hB5.cell (p := ⟨w.heap.size, 1, none⟩) hZ).trans k1, (hB5.cell (p := ⟨w.heap.size, 2, none⟩) hZ).trans k2⟩ (fun hHeld => ?_)
    clear hK K
    refine norm_ (a' := ?_) ?_ ?_
    rotate_left
    · show Act.put _ (some 22) _ = _
      simp only [Act.put, List.setIfInBounds_toArray, List.set_cons_zero, List.set_cons_succ, i64_w, i32_w]
      rfl
    refine last_ (i := 13) (N := some 23) #[true, true, true, true, true, true, true, true, true, true, true, true, true, true, false, false, false, false, false] rfl rfl (by kernel_rfl) (by decide) (fun K hK => ?_)
    refine goes_ Tryd.func15 (by kernel_rfl) rfl #[.string acaS, .slice (some ⟨w4.heap.size, 0, none⟩) 3 3] (by rfl) rfl rfl (by simp only [List.map_toArray, List.map_cons, List.map_nil]; rfl) ?_
    refine (HX _ _ hv5).mono ?_
    rintro e w6 ⟨a, cap, rfl, h1, h2, h3, hb6⟩
    refine ⟨_, rfl, ?_⟩
    refine hK.out _ _ ?_
    clear hK K
    refine norm_ (a' := ?_) ?_ ?_
    rotate_left
    · show Act.put _ (some 23) _ = _
      simp only [Act.put, List.setIfInBounds_toArray, List.set_cons_zero, List.set_cons_succ, i64_w, i32_w]
      rfl
    refine pure_ (i := 14) (N := some 9) (v := ?_) (a' := ?_) #[true, true, true, true, true, true, true, true, true, true, true, true, true, true, true, false, false, false, false] rfl rfl (by kernel_rfl) (fun _ _ _ h => h) (Or.inl ⟨by rfl, ?_⟩) ?_ ?_
    rotate_left
    · intro w'
      go_simp
      with_reducible rfl
    rotate_left
    · simp only [Act.put, List.setIfInBounds_toArray, List.set_cons_zero, List.set_cons_succ, i64_w, i32_w]
      rfl
    refine pure_ (i := 15) (N := some 24) (v := ?_) (a' := ?_) #[true, true, true, true, true, true, true, true, true, true, true, true, true, true, true, true, false, false, false] rfl rfl (by kernel_rfl) (fun _ _ _ h => h) (Or.inl ⟨by rfl, ?_⟩) ?_ ?_
    rotate_left
    · intro w'
      go_simp
      with_reducible rfl
    rotate_left
    · simp only [Act.put, List.setIfInBounds_toArray, List.set_cons_zero, List.set_cons_succ, i64_w, i32_w]
      rfl
    refine pure_ (i := 16) (N := some 25) (v := ?_) (a' := ?_) #[true, true, true, true, true, true, true, true, true, true, true, true, true, true, true, true, true, false, false] rfl rfl (by kernel_rfl) (fun _ _ _ h => h) (Or.inl ⟨by rfl, ?_⟩) ?_ ?_
    rotate_left
    · intro w'
      go_simp
      with_reducible rfl
    rotate_left
    · simp only [Act.put, List.setIfInBounds_toArray, List.set_cons_zero, List.set_cons_succ, i64_w, i32_w]
      rfl
    refine pure_ (i := 17) (N := some 4) (v := ?_) (a' := ?_) #[true, true, true, true, true, true, true, true, true, true, true, true, true, true, true, true, true, true, false] rfl rfl (by kernel_rfl) (fun _ _ _ h => h) (Or.inl ⟨by rfl, ?_⟩) ?_ ?_
    rotate_left
    · intro w'
      go_simp
      with_reducible rfl
    rotate_left
    · simp only [Act.put, List.setIfInBounds_toArray, List.set_cons_zero, List.set_cons_succ, i64_w, i32_w]
      rfl
    refine pure_ (i := 18) (N := some 5) (v := ?_) (a' := ?_) #[true, true, true, true, true, true, true, true, true, true, true, true, true, true, true, true, true, true, true] rfl rfl (by kernel_rfl) (fun _ _ _ h => h) (Or.inl ⟨by rfl, ?_⟩) ?_ ?_
    rotate_left
    · intro w'
      go_simp
      with_reducible rfl
    rotate_left
    · simp only [Act.put, List.setIfInBounds_toArray, List.set_cons_zero, List.set_cons_succ, i64_w, i32_w]
      rfl
    refine done_ (by kernel_rfl) ?_

    have hBB : Below v1.heap.size v1 w6 := (Below.refl _ v1).drew.trans (hB5.trans (hb6.mono hB5.size))
    go_wp2_with fail
    go_ret2
    exact ⟨a, cap, rfl, h1, h2, h3, hB1.trans (hBB.mono hB1.size)⟩
  · simp at hr
    have hL : lenc e s t = ([], 2) := by rw [lenc, if_pos hr]
    rw [hL]
    go_enter Tryd.func6, Tryd.ntmps6
    go_wp2_with fail
    refine (right_ref _ _ _ _).mono ?_
    rw [hr]
    rintro r v1 ⟨rfl, hb1⟩
    go_wp2_with fail
    go_ret2
    refine ⟨none, 0, rfl, Nat.le_refl _, by unfold maxLen; decide, fun h => absurd h (by simp), ?_⟩
    repeat (first | (with_reducible exact Below.refl _ _) | (with_reducible assumption) | (with_reducible refine bw_alloc ?_) | (with_reducible refine bw_drew ?_) | (with_reducible refine bw_drewN ?_) | (with_reducible refine bw_set ?_ (by first | (simp; done) | (dsimp only; omega))) | (with_reducible refine bw_via (by assumption) ?_))

theorem three_out {w : World} {v : Value} {s e t : Nat} (h : IsVals w v (three s e t)) : ∃ b0 off cap, v = .slice (some ⟨b0, off, none⟩) 3 cap ∧ 0 < cap + 1 ∧ b0 < w.heap.size ∧
    w.cell? ⟨b0, off, none⟩ = some (.int .u64 (s : Int)) ∧ w.cell? ⟨b0, off + 2, none⟩ = some (.int .u64 (e : Int)) ∧ w.cell? ⟨b0, off + 4, none⟩ = some (.int .u64 (t : Int)) ∧ w.cell? ⟨b0, off + 1, none⟩ = some (.string noS) := by
  obtain ⟨a, cap, rfl, _, _, hc⟩ := h
  obtain ⟨b, off, rfl, hb, hd⟩ := hc (by simp [three])
  exact ⟨b, off, cap, rfl, by omega, hb, (hd 0 (by simp [three])).1, (hd 1 (by simp [three])).1, (hd 2 (by simp [three])).1, (hd 0 (by simp [three])).2⟩
def LPost (T : L × Int) (w : World) (e : Ending) (w' : World) : Prop := e = .returned (.tuple #[.agg #[.int .i64 T.1.e, .int .i64 T.1.s, .int .u8 T.1.t], .int .i64 T.2]) ∧ Below w.heap.size w w'
theorem wrapi (n : Nat) (h : n < 4294967296) : IntKind.i64.wrap (n : Int) = n := by simp [IntKind.wrap, IntKind.bits, IntKind.signed]; omega
theorem wrapb (n : Nat) (h : n < 256) : IntKind.u8.wrap (n : Int) = n := by simp [IntKind.wrap, IntKind.bits, IntKind.signed]; omega
set_option maxHeartbeats 1000000 in
theorem decode_any (a : Option Addr) (l : List UInt8) (cap : Nat) (w : World) (hib : IsB w w.heap.size a l) (hlc : l.length ≤ cap) (hcm : cap ≤ maxLen) :
    Calls Tryd.prog 7 #[.slice a l.length cap] w (LPost (ldec l) w) := by
  rcases dec_err aca l with ⟨vs, hD⟩ | ⟨hD, _⟩ | ⟨hD, _⟩
  · obtain ⟨s, e, t, rfl, hs, he, ht⟩ := aca_dec hD
    have hR := ldec_ok hD
    have HX := fun w hib => decode_use acaS a l cap w (by unfold maxLen; decide) hib hlc hcm
    rw [acaS_list, hD] at HX
    have ws := wrapi s (by omega)
    have we := wrapi e (by omega)
    have wt := wrapb t (by omega)
    rw [hR]
    clear hR hD
    cases hr : rightB e s t with
    | true =>
      rw [if_neg (by simp)]
      go_enter Tryd.func7, Tryd.ntmps7
      go_wp2_with fail
      generalize hW : World.alloc w _ = w1
      obtain ⟨hB1, z1, k1⟩ := alloc_facts hW
      refine (HX w1 (isB_up hib hB1)).mono ?_
      rintro r w2 ⟨v, rfl, hv, _, hb2⟩
      obtain ⟨b0, off, c2, rfl, hcz, hg, d0, d1, d2, _⟩ := three_out hv
      have hB2 : Below w.heap.size w w2 := hB1.trans (hb2.mono hB1.size)
      have p0 : w2.cell? ⟨w.heap.size, 0, none⟩ = _ := (hb2.cell (p := ⟨w.heap.size, 0, none⟩) z1).trans (k1 0)
      have p1 : w2.cell? ⟨w.heap.size, 1, none⟩ = _ := (hb2.cell (p := ⟨w.heap.size, 1, none⟩) z1).trans (k1 1)
      have p2 : w2.cell? ⟨w.heap.size, 2, none⟩ = _ := (hb2.cell (p := ⟨w.heap.size, 2, none⟩) z1).trans (k1 2)
      have q : ∀ i, w2.frozen? ⟨w.heap.size, i, none⟩ = false := fun i => (hb2.frozen (p := ⟨w.heap.size, i, none⟩) z1).trans (by rw [← hW]; exact World.frozen?_alloc_at _ _ _ _ rfl)
      have hz2 := Nat.lt_of_lt_of_le z1 hb2.size
      clear k1 hb2 hv hB1 HX hib hW z1
      go_wp2_with fail
      refine start_ (n := 18) (S := fun w' => w'.cell? ⟨b0, off, none⟩ = some (.int .u64 (s : Int)) ∧ w'.cell? ⟨b0, off + 2, none⟩ = some (.int .u64 (e : Int)) ∧ w'.cell? ⟨b0, off + 4, none⟩ = some (.int .u64 (t : Int))) (ds := [17]) #[false, false, false, false, false, false, false, false, false, false, false, false, false, false, false, false, false, false] (by kernel_rfl) rfl rfl ⟨d0, d1, d2⟩ (fun hHeld => ?_)
      refine pure_ (i := 0) (N := some 15) (v := ?_) (a' := ?_) #[true, false, false, false, false, false, false, false, false, false, false, false, false, false, false, false, false, false] rfl rfl (by kernel_rfl) (fun _ _ _ h => h) (Or.inl ⟨by rfl, ?_⟩) ?_ ?_
      rotate_left
      · intro w'
        go_simp
        with_reducible rfl
      rotate_left
      · simp only [Act.put, List.setIfInBounds_toArray, List.set_cons_zero, List.set_cons_succ, i64_w, i32_w]
        rfl
      refine pure_ (i := 1) (N := some 16) (v := ?_) (a' := ?_) #[true, true, false, false, false, false, false, false, false, false, false, false, false, false, false, false, false, false] rfl rfl (by kernel_rfl) (fun _ _ _ h => h) (Or.inl ⟨by rfl, ?_⟩) ?_ ?_
      rotate_left
      · intro w'
        go_simp
        with_reducible rfl
      rotate_left
      · simp only [Act.put, List.setIfInBounds_toArray, List.set_cons_zero, List.set_cons_succ, i64_w, i32_w]
        rfl
      refine pure_ (i := 2) (N := some 17) (v := ?_) (a' := ?_) #[true, true, true, false, false, false, false, false, false, false, false, false, false, false, false, false, false, false] rfl rfl (by kernel_rfl) (fun _ _ _ h => h) (Or.inl ⟨by rfl, ?_⟩) ?_ ?_
      rotate_left
      · intro w'
        go_simp
        with_reducible rfl
      rotate_left
      · simp only [Act.put, List.setIfInBounds_toArray, List.set_cons_zero, List.set_cons_succ, i64_w, i32_w]
        rfl
      refine pure_ (i := 5) (N := some 20) (v := ?_) (a' := ?_) #[true, true, true, false, false, true, false, false, false, false, false, false, false, false, false, false, false, false] rfl rfl (by kernel_rfl) (fun _ _ _ h => h) (Or.inl ⟨by rfl, ?_⟩) ?_ ?_
      rotate_left
      · intro w'
        go_simp
        with_reducible rfl
      rotate_left
      · simp only [Act.put, List.setIfInBounds_toArray, List.set_cons_zero, List.set_cons_succ, i64_w, i32_w]
        rfl
      refine pure_ (i := 6) (N := some 21) (v := ?_) (a' := ?_) #[true, true, true, false, false, true, true, false, false, false, false, false, false, false, false, false, false, false] rfl rfl (by kernel_rfl) (fun _ _ _ h => h) (Or.inl ⟨by rfl, ?_⟩) ?_ ?_
      rotate_left
      · intro w'
        go_simp
        with_reducible rfl
      rotate_left
      · simp only [Act.put, List.setIfInBounds_toArray, List.set_cons_zero, List.set_cons_succ, i64_w, i32_w]
        rfl
      refine pure_ (i := 7) (N := some 22) (v := ?_) (a' := ?_) #[true, true, true, false, false, true, true, true, false, false, false, false, false, false, false, false, false, false] rfl rfl (by kernel_rfl) (fun _ _ _ h => h) (Or.inl ⟨by rfl, ?_⟩) ?_ ?_
      rotate_left
      · intro w'
        go_simp
        with_reducible rfl
      rotate_left
      · simp only [Act.put, List.setIfInBounds_toArray, List.set_cons_zero, List.set_cons_succ, i64_w, i32_w]
        rfl
      refine pure_ (i := 10) (N := some 25) (v := ?_) (a' := ?_) #[true, true, true, false, false, true, true, true, false, false, true, false, false, false, false, false, false, false] rfl rfl (by kernel_rfl) (fun _ _ _ h => h) (Or.inl ⟨by rfl, ?_⟩) ?_ ?_
      rotate_left
      · intro w'
        go_simp
        with_reducible rfl
      rotate_left
      · simp only [Act.put, List.setIfInBounds_toArray, List.set_cons_zero, List.set_cons_succ, i64_w, i32_w]
        rfl
      refine pure_ (i := 11) (N := some 26) (v := ?_) (a' := ?_) #[true, true, true, false, false, true, true, true, false, false, true, true, false, false, false, false, false, false] rfl rfl (by kernel_rfl) (fun _ _ _ h => h) (Or.inl ⟨by rfl, ?_⟩) ?_ ?_
      rotate_left
      · intro w'
        go_simp
        with_reducible rfl
      rotate_left
      · simp only [Act.put, List.setIfInBounds_toArray, List.set_cons_zero, List.set_cons_succ, i64_w, i32_w]
        rfl
      refine pure_ (i := 12) (N := some 27) (v := ?_) (a' := ?_) #[true, true, true, false, false, true, true, true, false, false, true, true, true, false, false, false, false, false] rfl rfl (by kernel_rfl) (fun _ _ _ h => h) (Or.inl ⟨by rfl, ?_⟩) ?_ ?_
      rotate_left
      · intro w'
        go_simp
        with_reducible rfl
      rotate_left
      · simp only [Act.put, List.setIfInBounds_toArray, List.set_cons_zero, List.set_cons_succ, i64_w, i32_w]
        rfl
      refine take_ (i := 3) (N := some 18) (v := ?_) (a' := ?_) #[true, true, true, true, false, true, true, true, false, false, true, true, true, false, false, false, false, false] rfl rfl (by kernel_rfl) (fun _ _ _ h => h) (Or.inl ⟨by rfl, ?_⟩) hHeld ?_ ?_
      rotate_left
      · rintro w' ⟨s0, s1, s2⟩
        go_simp
        with_reducible rfl
      rotate_left
      · simp only [Act.put, List.setIfInBounds_toArray, List.set_cons_zero, List.set_cons_succ, i64_w, i32_w]
        rfl
      refine pure_ (i := 4) (N := some 19) (v := ?_) (a' := ?_) #[true, true, true, true, true, true, true, true, false, false, true, true, true, false, false, false, false, false] rfl rfl (by kernel_rfl) (fun _ _ _ h => h) (Or.inl ⟨by rfl, ?_⟩) ?_ ?_
      rotate_left
      · intro w'
        go_simp
        with_reducible rfl
      rotate_left
      · simp only [Act.put, List.setIfInBounds_toArray, List.set_cons_zero, List.set_cons_succ, i64_w, i32_w]
        rfl
      refine take_ (i := 8) (N := some 23) (v := ?_) (a' := ?_) #[true, true, true, true, true, true, true, true, true, false, true, true, true, false, false, false, false, false] rfl rfl (by kernel_rfl) (fun _ _ _ h => h) (Or.inl ⟨by rfl, ?_⟩) hHeld ?_ ?_
      rotate_left
      · rintro w' ⟨s0, s1, s2⟩
        go_simp
        with_reducible rfl
      rotate_left
      · simp only [Act.put, List.setIfInBounds_toArray, List.set_cons_zero, List.set_cons_succ, i64_w, i32_w]
        rfl
      refine pure_ (i := 9) (N := some 24) (v := ?_) (a' := ?_) #[true, true, true, true, true, true, true, true, true, true, true, true, true, false, false, false, false, false] rfl rfl (by kernel_rfl) (fun _ _ _ h => h) (Or.inl ⟨by rfl, ?_⟩) ?_ ?_
      rotate_left
      · intro w'
        go_simp
        with_reducible rfl
      rotate_left
      · simp only [Act.put, List.setIfInBounds_toArray, List.set_cons_zero, List.set_cons_succ, i64_w, i32_w]
        rfl
      refine take_ (i := 13) (N := some 28) (v := ?_) (a' := ?_) #[true, true, true, true, true, true, true, true, true, true, true, true, true, true, false, false, false, false] rfl rfl (by kernel_rfl) (fun _ _ _ h => h) (Or.inl ⟨by rfl, ?_⟩) hHeld ?_ ?_
      rotate_left
      · rintro w' ⟨s0, s1, s2⟩
        go_simp
        with_reducible rfl
      rotate_left
      · simp only [Act.put, List.setIfInBounds_toArray, List.set_cons_zero, List.set_cons_succ, i64_w, i32_w]
        rfl
      refine pure_ (i := 14) (N := some 29) (v := ?_) (a' := ?_) #[true, true, true, true, true, true, true, true, true, true, true, true, true, true, true, false, false, false] rfl rfl (by kernel_rfl) (fun _ _ _ h => h) (Or.inl ⟨by rfl, ?_⟩) ?_ ?_
      rotate_left
      · intro w'
        go_simp
        with_reducible rfl
      rotate_left
      · simp only [Act.put, List.setIfInBounds_toArray, List.set_cons_zero, List.set_cons_succ, i64_w, i32_w]
        rfl
      refine pure_ (i := 15) (N := some 30) (v := ?_) (a' := ?_) #[true, true, true, true, true, true, true, true, true, true, true, true, true, true, true, true, false, false] rfl rfl (by kernel_rfl) (fun _ _ _ h => h) (Or.inl ⟨by rfl, ?_⟩) ?_ ?_
      rotate_left
      · intro w'
        go_simp
        with_reducible rfl
      rotate_left
      · simp only [Act.put, List.setIfInBounds_toArray, List.set_cons_zero, List.set_cons_succ, i64_w, i32_w]
        rfl
      refine one_ (i := 16) (N := some 6) #[true, true, true, true, true, true, true, true, true, true, true, true, true, true, true, true, true, false] rfl rfl (by kernel_rfl) (by decide) (fun K hK => ?_)
      refine value_ (w1 := ?_) (v := ?_) (by rfl) rfl ?_ ?_
      rotate_left 2
      · go_simp
        constructor
        · rfl
        · rfl
      generalize hW5 : World.alloc _ _ = w5
      obtain ⟨hB5, z5, k5⟩ := alloc_facts hW5
      have f50 : w5.frozen? ⟨w2.heap.size, 0, none⟩ = false := by rw [← hW5]; exact World.frozen?_alloc_at _ _ _ _ rfl
      have f51 : w5.frozen? ⟨w2.heap.size, 1, none⟩ = false := by rw [← hW5]; exact World.frozen?_alloc_at _ _ _ _ rfl
      have f52 : w5.frozen? ⟨w2.heap.size, 2, none⟩ = false := by rw [← hW5]; exact World.frozen?_alloc_at _ _ _ _ rfl
      have e50 : w5.cell? ⟨w2.heap.size, 0, none⟩ = _ := k5 0
      have e51 : w5.cell? ⟨w2.heap.size, 1, none⟩ = _ := k5 1
      have e52 : w5.cell? ⟨w2.heap.size, 2, none⟩ = _ := k5 2
      clear hW5 k5
      refine hK.out _ _ ⟨(hB5.cell (p := ⟨b0, off, none⟩) hg).trans d0, (hB5.cell (p := ⟨b0, off + 2, none⟩) hg).trans d1, (hB5.cell (p := ⟨b0, off + 4, none⟩) hg).trans d2⟩ (fun hHeld => ?_)
      clear hK K
      refine norm_ (a' := ?_) ?_ ?_
      rotate_left
      · show Act.put _ (some 6) _ = _
        simp only [Act.put, List.setIfInBounds_toArray, List.set_cons_zero, List.set_cons_succ, i64_w, i32_w]
        rfl
      refine last_ (i := 17) (N := none) #[true, true, true, true, true, true, true, true, true, true, true, true, true, true, true, true, true, true] rfl rfl (by kernel_rfl) (by decide) (fun K hK => ?_)
      refine skip_ (w1 := ?_) (by rfl) rfl ?_ ?_
      rotate_left
      · go_simp
        rfl
      refine hK.out _ _ ?_
      clear hK K
      refine done_ (by kernel_rfl) ?_

      generalize hW6 : World.drew _ = w6
      have hB6 : Below w2.heap.size w2 w6 := by
        rw [← hW6]
        exact (((((hB5)).setCell (p := ⟨w2.heap.size, 0, none⟩) (Nat.le_refl _) _).setCell (p := ⟨w2.heap.size, 1, none⟩) (Nat.le_refl _) _).setCell (p := ⟨w2.heap.size, 2, none⟩) (Nat.le_refl _) _).drew
      have j0 : w6.cell? ⟨w2.heap.size, 0, none⟩ = some (.int .i64 (e : Int)) := by rw [← hW6]; simp [go_sem, e50, e51, e52]
      have j1 : w6.cell? ⟨w2.heap.size, 1, none⟩ = some (.int .i64 (s : Int)) := by rw [← hW6]; simp [go_sem, e50, e51, e52]
      have j2 : w6.cell? ⟨w2.heap.size, 2, none⟩ = some (.int .u8 (t : Int)) := by rw [← hW6]; simp [go_sem, e50, e51, e52]
      have hz6 : w2.heap.size < w6.heap.size := by rw [← hW6]; simpa using z5
      clear hW6 e50 e51 e52 f50 f51 f52 hB5 z5
      go_wp2_with fail
      refine (right_any _ _ _ _).mono ?_
      rw [hr]
      rintro r w7 ⟨rfl, hb7⟩
      have hB7 : Below w2.heap.size w2 w7 := hB6.trans (hb7.mono hB6.size)
      have i0 := (hB7.cell (p := ⟨w.heap.size, 0, none⟩) hz2).trans p0
      have i1 := (hB7.cell (p := ⟨w.heap.size, 1, none⟩) hz2).trans p1
      have i2 := (hB7.cell (p := ⟨w.heap.size, 2, none⟩) hz2).trans p2
      have n0 := (hB7.frozen (p := ⟨w.heap.size, 0, none⟩) hz2).trans (q 0)
      have n1 := (hB7.frozen (p := ⟨w.heap.size, 1, none⟩) hz2).trans (q 1)
      have n2 := (hB7.frozen (p := ⟨w.heap.size, 2, none⟩) hz2).trans (q 2)
      have m0 := (hb7.cell (p := ⟨w2.heap.size, 0, none⟩) hz6).trans j0
      have m1 := (hb7.cell (p := ⟨w2.heap.size, 1, none⟩) hz6).trans j1
      have m2 := (hb7.cell (p := ⟨w2.heap.size, 2, none⟩) hz6).trans j2
      have hBF : Below w.heap.size w w7 := hB2.trans (hB7.mono hB2.size)
      clear hB7 hb7 hB6 j0 j1 j2 p0 p1 p2 q d0 d1 d2
      go_wp2_with fail
      simp [bodyPost, results, Tryd.results7, go_sem, LPost, *]
      exact ((hBF.setCell (p := ⟨w.heap.size, 0, none⟩) (Nat.le_refl _) _).setCell (p := ⟨w.heap.size, 1, none⟩) (Nat.le_refl _) _).setCell (p := ⟨w.heap.size, 2, none⟩) (Nat.le_refl _) _
    | false =>
      rw [if_pos rfl]
      go_enter Tryd.func7, Tryd.ntmps7
      go_wp2_with fail
      generalize hW : World.alloc w _ = w1
      obtain ⟨hB1, z1, k1⟩ := alloc_facts hW
      refine (HX w1 (isB_up hib hB1)).mono ?_
      rintro r w2 ⟨v, rfl, hv, _, hb2⟩
      obtain ⟨b0, off, c2, rfl, hcz, hg, d0, d1, d2, _⟩ := three_out hv
      have hB2 : Below w.heap.size w w2 := hB1.trans (hb2.mono hB1.size)
      have p0 : w2.cell? ⟨w.heap.size, 0, none⟩ = _ := (hb2.cell (p := ⟨w.heap.size, 0, none⟩) z1).trans (k1 0)
      have p1 : w2.cell? ⟨w.heap.size, 1, none⟩ = _ := (hb2.cell (p := ⟨w.heap.size, 1, none⟩) z1).trans (k1 1)
      have p2 : w2.cell? ⟨w.heap.size, 2, none⟩ = _ := (hb2.cell (p := ⟨w.heap.size, 2, none⟩) z1).trans (k1 2)
      have q : ∀ i, w2.frozen? ⟨w.heap.size, i, none⟩ = false := fun i => (hb2.frozen (p := ⟨w.heap.size, i, none⟩) z1).trans (by rw [← hW]; exact World.frozen?_alloc_at _ _ _ _ rfl)
      have hz2 := Nat.lt_of_lt_of_le z1 hb2.size
      clear k1 hb2 hv hB1 HX hib hW z1
      go_wp2_with fail
      refine start_ (n := 18) (S := fun w' => w'.cell? ⟨b0, off, none⟩ = some (.int .u64 (s : Int)) ∧ w'.cell? ⟨b0, off + 2, none⟩ = some (.int .u64 (e : Int)) ∧ w'.cell? ⟨b0, off + 4, none⟩ = some (.int .u64 (t : Int))) (ds := [17]) #[false, false, false, false, false, false, false, false, false, false, false, false, false, false, false, false, false, false] (by kernel_rfl) rfl rfl ⟨d0, d1, d2⟩ (fun hHeld => ?_)
      refine pure_ (i := 0) (N := some 15) (v := ?_) (a' := ?_) #[true, false, false, false, false, false, false, false, false, false, false, false, false, false, false, false, false, false] rfl rfl (by kernel_rfl) (fun _ _ _ h => h) (Or.inl ⟨by rfl, ?_⟩) ?_ ?_
      rotate_left
      · intro w'
        go_simp
        with_reducible rfl
      rotate_left
      · simp only [Act.put, List.setIfInBounds_toArray, List.set_cons_zero, List.set_cons_succ, i64_w, i32_w]
        rfl
      refine pure_ (i := 1) (N := some 16) (v := ?_) (a' := ?_) #[true, true, false, false, false, false, false, false, false, false, false, false, false, false, false, false, false, false] rfl rfl (by kernel_rfl) (fun _ _ _ h => h) (Or.inl ⟨by rfl, ?_⟩) ?_ ?_
      rotate_left
      · intro w'
        go_simp
        with_reducible rfl
      rotate_left
      · simp only [Act.put, List.setIfInBounds_toArray, List.set_cons_zero, List.set_cons_succ, i64_w, i32_w]
        rfl
      refine pure_ (i := 2) (N := some 17) (v := ?_) (a' := ?_) #[true, true, true, false, false, false, false, false, false, false, false, false, false, false, false, false, false, false] rfl rfl (by kernel_rfl) (fun _ _ _ h => h) (Or.inl ⟨by rfl, ?_⟩) ?_ ?_
      rotate_left
      · intro w'
        go_simp
        with_reducible rfl
      rotate_left
      · simp only [Act.put, List.setIfInBounds_toArray, List.set_cons_zero, List.set_cons_succ, i64_w, i32_w]
        rfl
      refine pure_ (i := 5) (N := some 20) (v := ?_) (a' := ?_) #[true, true, true, false, false, true, false, false, false, false, false, false, false, false, false, false, false, false] rfl rfl (by kernel_rfl) (fun _ _ _ h => h) (Or.inl ⟨by rfl, ?_⟩) ?_ ?_
      rotate_left
      · intro w'
        go_simp
        with_reducible rfl
      rotate_left
      · simp only [Act.put, List.setIfInBounds_toArray, List.set_cons_zero, List.set_cons_succ, i64_w, i32_w]
        rfl
      refine pure_ (i := 6) (N := some 21) (v := ?_) (a' := ?_) #[true, true, true, false, false, true, true, false, false, false, false, false, false, false, false, false, false, false] rfl rfl (by kernel_rfl) (fun _ _ _ h => h) (Or.inl ⟨by rfl, ?_⟩) ?_ ?_
      rotate_left
      · intro w'
        go_simp
        with_reducible rfl
      rotate_left
      · simp only [Act.put, List.setIfInBounds_toArray, List.set_cons_zero, List.set_cons_succ, i64_w, i32_w]
        rfl
      refine pure_ (i := 7) (N := some 22) (v := ?_) (a' := ?_) #[true, true, true, false, false, true, true, true, false, false, false, false, false, false, false, false, false, false] rfl rfl (by kernel_rfl) (fun _ _ _ h => h) (Or.inl ⟨by rfl, ?_⟩) ?_ ?_
      rotate_left
      · intro w'
        go_simp
        with_reducible rfl
      rotate_left
      · simp only [Act.put, List.setIfInBounds_toArray, List.set_cons_zero, List.set_cons_succ, i64_w, i32_w]
        rfl
      refine pure_ (i := 10) (N := some 25) (v := ?_) (a' := ?_) #[true, true, true, false, false, true, true, true, false, false, true, false, false, false, false, false, false, false] rfl rfl (by kernel_rfl) (fun _ _ _ h => h) (Or.inl ⟨by rfl, ?_⟩) ?_ ?_
      rotate_left
      · intro w'
        go_simp
        with_reducible rfl
      rotate_left
      · simp only [Act.put, List.setIfInBounds_toArray, List.set_cons_zero, List.set_cons_succ, i64_w, i32_w]
        rfl
      refine pure_ (i := 11) (N := some 26) (v := ?_) (a' := ?_) #[true, true, true, false, false, true, true, true, false, false, true, true, false, false, false, false, false, false] rfl rfl (by kernel_rfl) (fun _ _ _ h => h) (Or.inl ⟨by rfl, ?_⟩) ?_ ?_
      rotate_left
      · intro w'
        go_simp
        with_reducible rfl
      rotate_left
      · simp only [Act.put, List.setIfInBounds_toArray, List.set_cons_zero, List.set_cons_succ, i64_w, i32_w]
        rfl
      refine pure_ (i := 12) (N := some 27) (v := ?_) (a' := ?_) #[true, true, true, false, false, true, true, true, false, false, true, true, true, false, false, false, false, false] rfl rfl (by kernel_rfl) (fun _ _ _ h => h) (Or.inl ⟨by rfl, ?_⟩) ?_ ?_
      rotate_left
      · intro w'
        go_simp
        with_reducible rfl
      rotate_left
      · simp only [Act.put, List.setIfInBounds_toArray, List.set_cons_zero, List.set_cons_succ, i64_w, i32_w]
        rfl
      refine take_ (i := 3) (N := some 18) (v := ?_) (a' := ?_) #[true, true, true, true, false, true, true, true, false, false, true, true, true, false, false, false, false, false] rfl rfl (by kernel_rfl) (fun _ _ _ h => h) (Or.inl ⟨by rfl, ?_⟩) hHeld ?_ ?_
      rotate_left
      · rintro w' ⟨s0, s1, s2⟩
        go_simp
        with_reducible rfl
      rotate_left
      · simp only [Act.put, List.setIfInBounds_toArray, List.set_cons_zero, List.set_cons_succ, i64_w, i32_w]
        rfl
      refine pure_ (i := 4) (N := some 19) (v := ?_) (a' := ?_) #[true, true, true, true, true, true, true, true, false, false, true, true, true, false, false, false, false, false] rfl rfl (by kernel_rfl) (fun _ _ _ h => h) (Or.inl ⟨by rfl, ?_⟩) ?_ ?_
      rotate_left
      · intro w'
        go_simp
        with_reducible rfl
      rotate_left
      · simp only [Act.put, List.setIfInBounds_toArray, List.set_cons_zero, List.set_cons_succ, i64_w, i32_w]
        rfl
      refine take_ (i := 8) (N := some 23) (v := ?_) (a' := ?_) #[true, true, true, true, true, true, true, true, true, false, true, true, true, false, false, false, false, false] rfl rfl (by kernel_rfl) (fun _ _ _ h => h) (Or.inl ⟨by rfl, ?_⟩) hHeld ?_ ?_
      rotate_left
      · rintro w' ⟨s0, s1, s2⟩
        go_simp
        with_reducible rfl
      rotate_left
      · simp only [Act.put, List.setIfInBounds_toArray, List.set_cons_zero, List.set_cons_succ, i64_w, i32_w]
        rfl
      refine pure_ (i := 9) (N := some 24) (v := ?_) (a' := ?_) #[true, true, true, true, true, true, true, true, true, true, true, true, true, false, false, false, false, false] rfl rfl (by kernel_rfl) (fun _ _ _ h => h) (Or.inl ⟨by rfl, ?_⟩) ?_ ?_
      rotate_left
      · intro w'
        go_simp
        with_reducible rfl
      rotate_left
      · simp only [Act.put, List.setIfInBounds_toArray, List.set_cons_zero, List.set_cons_succ, i64_w, i32_w]
        rfl
      refine take_ (i := 13) (N := some 28) (v := ?_) (a' := ?_) #[true, true, true, true, true, true, true, true, true, true, true, true, true, true, false, false, false, false] rfl rfl (by kernel_rfl) (fun _ _ _ h => h) (Or.inl ⟨by rfl, ?_⟩) hHeld ?_ ?_
      rotate_left
      · rintro w' ⟨s0, s1, s2⟩
        go_simp
        with_reducible rfl
      rotate_left
      · simp only [Act.put, List.setIfInBounds_toArray, List.set_cons_zero, List.set_cons_succ, i64_w, i32_w]
        rfl
      refine pure_ (i := 14) (N := some 29) (v := ?_) (a' := ?_) #[true, true, true, true, true, true, true, true, true, true, true, true, true, true, true, false, false, false] rfl rfl (by kernel_rfl) (fun _ _ _ h => h) (Or.inl ⟨by rfl, ?_⟩) ?_ ?_
      rotate_left
      · intro w'
        go_simp
        with_reducible rfl
      rotate_left
      · simp only [Act.put, List.setIfInBounds_toArray, List.set_cons_zero, List.set_cons_succ, i64_w, i32_w]
        rfl
      refine pure_ (i := 15) (N := some 30) (v := ?_) (a' := ?_) #[true, true, true, true, true, true, true, true, true, true, true, true, true, true, true, true, false, false] rfl rfl (by kernel_rfl) (fun _ _ _ h => h) (Or.inl ⟨by rfl, ?_⟩) ?_ ?_
      rotate_left
      · intro w'
        go_simp
        with_reducible rfl
      rotate_left
      · simp only [Act.put, List.setIfInBounds_toArray, List.set_cons_zero, List.set_cons_succ, i64_w, i32_w]
        rfl
      refine one_ (i := 16) (N := some 6) #[true, true, true, true, true, true, true, true, true, true, true, true, true, true, true, true, true, false] rfl rfl (by kernel_rfl) (by decide) (fun K hK => ?_)
      refine value_ (w1 := ?_) (v := ?_) (by rfl) rfl ?_ ?_
      rotate_left 2
      · go_simp
        constructor
        · rfl
        · rfl
      generalize hW5 : World.alloc _ _ = w5
      obtain ⟨hB5, z5, k5⟩ := alloc_facts hW5
      have f50 : w5.frozen? ⟨w2.heap.size, 0, none⟩ = false := by rw [← hW5]; exact World.frozen?_alloc_at _ _ _ _ rfl
      have f51 : w5.frozen? ⟨w2.heap.size, 1, none⟩ = false := by rw [← hW5]; exact World.frozen?_alloc_at _ _ _ _ rfl
      have f52 : w5.frozen? ⟨w2.heap.size, 2, none⟩ = false := by rw [← hW5]; exact World.frozen?_alloc_at _ _ _ _ rfl
      have e50 : w5.cell? ⟨w2.heap.size, 0, none⟩ = _ := k5 0
      have e51 : w5.cell? ⟨w2.heap.size, 1, none⟩ = _ := k5 1
      have e52 : w5.cell? ⟨w2.heap.size, 2, none⟩ = _ := k5 2
      clear hW5 k5
      refine hK.out _ _ ⟨(hB5.cell (p := ⟨b0, off, none⟩) hg).trans d0, (hB5.cell (p := ⟨b0, off + 2, none⟩) hg).trans d1, (hB5.cell (p := ⟨b0, off + 4, none⟩) hg).trans d2⟩ (fun hHeld => ?_)
      clear hK K
      refine norm_ (a' := ?_) ?_ ?_
      rotate_left
      · show Act.put _ (some 6) _ = _
        simp only [Act.put, List.setIfInBounds_toArray, List.set_cons_zero, List.set_cons_succ, i64_w, i32_w]
        rfl
      refine last_ (i := 17) (N := none) #[true, true, true, true, true, true, true, true, true, true, true, true, true, true, true, true, true, true] rfl rfl (by kernel_rfl) (by decide) (fun K hK => ?_)
      refine skip_ (w1 := ?_) (by rfl) rfl ?_ ?_
      rotate_left
      · go_simp
        rfl
      refine hK.out _ _ ?_
      clear hK K
      refine done_ (by kernel_rfl) ?_

      generalize hW6 : World.drew _ = w6
      have hB6 : Below w2.heap.size w2 w6 := by
        rw [← hW6]
        exact (((((hB5)).setCell (p := ⟨w2.heap.size, 0, none⟩) (Nat.le_refl _) _).setCell (p := ⟨w2.heap.size, 1, none⟩) (Nat.le_refl _) _).setCell (p := ⟨w2.heap.size, 2, none⟩) (Nat.le_refl _) _).drew
      have j0 : w6.cell? ⟨w2.heap.size, 0, none⟩ = some (.int .i64 (e : Int)) := by rw [← hW6]; simp [go_sem, e50, e51, e52]
      have j1 : w6.cell? ⟨w2.heap.size, 1, none⟩ = some (.int .i64 (s : Int)) := by rw [← hW6]; simp [go_sem, e50, e51, e52]
      have j2 : w6.cell? ⟨w2.heap.size, 2, none⟩ = some (.int .u8 (t : Int)) := by rw [← hW6]; simp [go_sem, e50, e51, e52]
      have hz6 : w2.heap.size < w6.heap.size := by rw [← hW6]; simpa using z5
      clear hW6 e50 e51 e52 f50 f51 f52 hB5 z5
      go_wp2_with fail
      refine (right_any _ _ _ _).mono ?_
      rw [hr]
      rintro r w7 ⟨rfl, hb7⟩
      have hB7 : Below w2.heap.size w2 w7 := hB6.trans (hb7.mono hB6.size)
      have i0 := (hB7.cell (p := ⟨w.heap.size, 0, none⟩) hz2).trans p0
      have i1 := (hB7.cell (p := ⟨w.heap.size, 1, none⟩) hz2).trans p1
      have i2 := (hB7.cell (p := ⟨w.heap.size, 2, none⟩) hz2).trans p2
      have n0 := (hB7.frozen (p := ⟨w.heap.size, 0, none⟩) hz2).trans (q 0)
      have n1 := (hB7.frozen (p := ⟨w.heap.size, 1, none⟩) hz2).trans (q 1)
      have n2 := (hB7.frozen (p := ⟨w.heap.size, 2, none⟩) hz2).trans (q 2)
      have m0 := (hb7.cell (p := ⟨w2.heap.size, 0, none⟩) hz6).trans j0
      have m1 := (hb7.cell (p := ⟨w2.heap.size, 1, none⟩) hz6).trans j1
      have m2 := (hb7.cell (p := ⟨w2.heap.size, 2, none⟩) hz6).trans j2
      have hBF : Below w.heap.size w w7 := hB2.trans (hB7.mono hB2.size)
      clear hB7 hb7 hB6 j0 j1 j2 p0 p1 p2 q d0 d1 d2
      go_wp2_with fail
      simp [bodyPost, results, Tryd.results7, go_sem, LPost, *]
      exact ((hBF.setCell (p := ⟨w.heap.size, 0, none⟩) (Nat.le_refl _) _).setCell (p := ⟨w.heap.size, 1, none⟩) (Nat.le_refl _) _).setCell (p := ⟨w.heap.size, 2, none⟩) (Nat.le_refl _) _
  · rw [ldec_bad (by rw [hD]; decide)]
    have HX := fun w hib => decode_use acaS a l cap w (by unfold maxLen; decide) hib hlc hcm
    rw [acaS_list, hD] at HX
    go_enter Tryd.func7, Tryd.ntmps7
    go_wp2_with fail
    generalize hW : World.alloc w _ = w1
    obtain ⟨hB1, z1, k1⟩ := alloc_facts hW
    refine (HX w1 (isB_up hib hB1)).mono ?_
    rintro r w2 ⟨v, rfl, hv, _, hb2⟩
    have hB2 : Below w.heap.size w w2 := hB1.trans (hb2.mono hB1.size)
    have p0 : w2.cell? ⟨w.heap.size, 0, none⟩ = _ := (hb2.cell (p := ⟨w.heap.size, 0, none⟩) z1).trans (k1 0)
    have p1 : w2.cell? ⟨w.heap.size, 1, none⟩ = _ := (hb2.cell (p := ⟨w.heap.size, 1, none⟩) z1).trans (k1 1)
    have p2 : w2.cell? ⟨w.heap.size, 2, none⟩ = _ := (hb2.cell (p := ⟨w.heap.size, 2, none⟩) z1).trans (k1 2)
    have q : ∀ i, w2.frozen? ⟨w.heap.size, i, none⟩ = false := fun i => (hb2.frozen (p := ⟨w.heap.size, i, none⟩) z1).trans (by rw [← hW]; exact World.frozen?_alloc_at _ _ _ _ rfl)
    have n0 := q 0
    have n1 := q 1
    have n2 := q 2
    clear k1 hb2 hv hB1 HX hib hW z1 q
    go_wp2_with fail
    simp [bodyPost, results, Tryd.results7, go_sem, LPost, *]
    exact ((hB2.setCell (p := ⟨w.heap.size, 0, none⟩) (Nat.le_refl _) _).setCell (p := ⟨w.heap.size, 1, none⟩) (Nat.le_refl _) _).setCell (p := ⟨w.heap.size, 2, none⟩) (Nat.le_refl _) _
  · rw [ldec_bad (by rw [hD]; decide)]
    have HX := fun w hib => decode_use acaS a l cap w (by unfold maxLen; decide) hib hlc hcm
    rw [acaS_list, hD] at HX
    go_enter Tryd.func7, Tryd.ntmps7
    go_wp2_with fail
    generalize hW : World.alloc w _ = w1
    obtain ⟨hB1, z1, k1⟩ := alloc_facts hW
    refine (HX w1 (isB_up hib hB1)).mono ?_
    rintro r w2 ⟨v, rfl, hv, _, hb2⟩
    have hB2 : Below w.heap.size w w2 := hB1.trans (hb2.mono hB1.size)
    have p0 : w2.cell? ⟨w.heap.size, 0, none⟩ = _ := (hb2.cell (p := ⟨w.heap.size, 0, none⟩) z1).trans (k1 0)
    have p1 : w2.cell? ⟨w.heap.size, 1, none⟩ = _ := (hb2.cell (p := ⟨w.heap.size, 1, none⟩) z1).trans (k1 1)
    have p2 : w2.cell? ⟨w.heap.size, 2, none⟩ = _ := (hb2.cell (p := ⟨w.heap.size, 2, none⟩) z1).trans (k1 2)
    have q : ∀ i, w2.frozen? ⟨w.heap.size, i, none⟩ = false := fun i => (hb2.frozen (p := ⟨w.heap.size, i, none⟩) z1).trans (by rw [← hW]; exact World.frozen?_alloc_at _ _ _ _ rfl)
    have n0 := q 0
    have n1 := q 1
    have n2 := q 2
    clear k1 hb2 hv hB1 HX hib hW z1 q
    go_wp2_with fail
    simp [bodyPost, results, Tryd.results7, go_sem, LPost, *]
    exact ((hB2.setCell (p := ⟨w.heap.size, 0, none⟩) (Nat.le_refl _) _).setCell (p := ⟨w.heap.size, 1, none⟩) (Nat.le_refl _) _).setCell (p := ⟨w.heap.size, 2, none⟩) (Nat.le_refl _) _

set_option maxHeartbeats 1000000 in
theorem rdecode_any (a : Option Addr) (l : List UInt8) (cap : Nat) (w : World) (hib : IsB w w.heap.size a l) (hlc : l.length ≤ cap) (hcm : cap ≤ maxLen) :
    Calls Tryd.prog 8 #[.slice a l.length cap] w (LPost (ldec l) w) := by
  rcases dec_err aca l with ⟨vs, hD⟩ | ⟨hD, _⟩ | ⟨hD, _⟩
  · obtain ⟨s, e, t, rfl, hs, he, ht⟩ := aca_dec hD
    have hR := ldec_ok hD
    have HX := fun w hib => rdecode_use acaS a l cap w (by unfold maxLen; decide) hib hlc hcm
    rw [acaS_list, hD] at HX
    have ws := wrapi s (by omega)
    have we := wrapi e (by omega)
    have wt := wrapb t (by omega)
    rw [hR]
    clear hR hD
    cases hr : rightB e s t with
    | true =>
      rw [if_neg (by simp)]
      go_enter Tryd.func8, Tryd.ntmps8
      go_wp2_with fail
      generalize hW : World.alloc w _ = w1
      obtain ⟨hB1, z1, k1⟩ := alloc_facts hW
      refine (HX w1 (isB_up hib hB1)).mono ?_
      rintro r w2 ⟨v, rfl, hv, _, hb2⟩
      obtain ⟨b0, off, c2, rfl, hcz, hg, d0, d1, d2, _⟩ := three_out hv
      have hB2 : Below w.heap.size w w2 := hB1.trans (hb2.mono hB1.size)
      have p0 : w2.cell? ⟨w.heap.size, 0, none⟩ = _ := (hb2.cell (p := ⟨w.heap.size, 0, none⟩) z1).trans (k1 0)
      have p1 : w2.cell? ⟨w.heap.size, 1, none⟩ = _ := (hb2.cell (p := ⟨w.heap.size, 1, none⟩) z1).trans (k1 1)
      have p2 : w2.cell? ⟨w.heap.size, 2, none⟩ = _ := (hb2.cell (p := ⟨w.heap.size, 2, none⟩) z1).trans (k1 2)
      have q : ∀ i, w2.frozen? ⟨w.heap.size, i, none⟩ = false := fun i => (hb2.frozen (p := ⟨w.heap.size, i, none⟩) z1).trans (by rw [← hW]; exact World.frozen?_alloc_at _ _ _ _ rfl)
      have hz2 := Nat.lt_of_lt_of_le z1 hb2.size
      clear k1 hb2 hv hB1 HX hib hW z1
      go_wp2_with fail
      refine start_ (n := 18) (S := fun w' => w'.cell? ⟨b0, off, none⟩ = some (.int .u64 (s : Int)) ∧ w'.cell? ⟨b0, off + 2, none⟩ = some (.int .u64 (e : Int)) ∧ w'.cell? ⟨b0, off + 4, none⟩ = some (.int .u64 (t : Int))) (ds := [17]) #[false, false, false, false, false, false, false, false, false, false, false, false, false, false, false, false, false, false] (by kernel_rfl) rfl rfl ⟨d0, d1, d2⟩ (fun hHeld => ?_)
      refine pure_ (i := 0) (N := some 15) (v := ?_) (a' := ?_) #[true, false, false, false, false, false, false, false, false, false, false, false, false, false, false, false, false, false] rfl rfl (by kernel_rfl) (fun _ _ _ h => h) (Or.inl ⟨by rfl, ?_⟩) ?_ ?_
      rotate_left
      · intro w'
        go_simp
        with_reducible rfl
      rotate_left
      · simp only [Act.put, List.setIfInBounds_toArray, List.set_cons_zero, List.set_cons_succ, i64_w, i32_w]
        rfl
      refine pure_ (i := 1) (N := some 16) (v := ?_) (a' := ?_) #[true, true, false, false, false, false, false, false, false, false, false, false, false, false, false, false, false, false] rfl rfl (by kernel_rfl) (fun _ _ _ h => h) (Or.inl ⟨by rfl, ?_⟩) ?_ ?_
      rotate_left
      · intro w'
        go_simp
        with_reducible rfl
      rotate_left
      · simp only [Act.put, List.setIfInBounds_toArray, List.set_cons_zero, List.set_cons_succ, i64_w, i32_w]
        rfl
      refine pure_ (i := 2) (N := some 17) (v := ?_) (a' := ?_) #[true, true, true, false, false, false, false, false, false, false, false, false, false, false, false, false, false, false] rfl rfl (by kernel_rfl) (fun _ _ _ h => h) (Or.inl ⟨by rfl, ?_⟩) ?_ ?_
      rotate_left
      · intro w'
        go_simp
        with_reducible rfl
      rotate_left
      · simp only [Act.put, List.setIfInBounds_toArray, List.set_cons_zero, List.set_cons_succ, i64_w, i32_w]
        rfl
      refine pure_ (i := 5) (N := some 20) (v := ?_) (a' := ?_) #[true, true, true, false, false, true, false, false, false, false, false, false, false, false, false, false, false, false] rfl rfl (by kernel_rfl) (fun _ _ _ h => h) (Or.inl ⟨by rfl, ?_⟩) ?_ ?_
      rotate_left
      · intro w'
        go_simp
        with_reducible rfl
      rotate_left
      · simp only [Act.put, List.setIfInBounds_toArray, List.set_cons_zero, List.set_cons_succ, i64_w, i32_w]
        rfl
      refine pure_ (i := 6) (N := some 21) (v := ?_) (a' := ?_) #[true, true, true, false, false, true, true, false, false, false, false, false, false, false, false, false, false, false] rfl rfl (by kernel_rfl) (fun _ _ _ h => h) (Or.inl ⟨by rfl, ?_⟩) ?_ ?_
      rotate_left
      · intro w'
        go_simp
        with_reducible rfl
      rotate_left
      · simp only [Act.put, List.setIfInBounds_toArray, List.set_cons_zero, List.set_cons_succ, i64_w, i32_w]
        rfl
      refine pure_ (i := 7) (N := some 22) (v := ?_) (a' := ?_) #[true, true, true, false, false, true, true, true, false, false, false, false, false, false, false, false, false, false] rfl rfl (by kernel_rfl) (fun _ _ _ h => h) (Or.inl ⟨by rfl, ?_⟩) ?_ ?_
      rotate_left
      · intro w'
        go_simp
        with_reducible rfl
      rotate_left
      · simp only [Act.put, List.setIfInBounds_toArray, List.set_cons_zero, List.set_cons_succ, i64_w, i32_w]
        rfl
      refine pure_ (i := 10) (N := some 25) (v := ?_) (a' := ?_) #[true, true, true, false, false, true, true, true, false, false, true, false, false, false, false, false, false, false] rfl rfl (by kernel_rfl) (fun _ _ _ h => h) (Or.inl ⟨by rfl, ?_⟩) ?_ ?_
      rotate_left
      · intro w'
        go_simp
        with_reducible rfl
      rotate_left
      · simp only [Act.put, List.setIfInBounds_toArray, List.set_cons_zero, List.set_cons_succ, i64_w, i32_w]
        rfl
      refine pure_ (i := 11) (N := some 26) (v := ?_) (a' := ?_) #[true, true, true, false, false, true, true, true, false, false, true, true, false, false, false, false, false, false] rfl rfl (by kernel_rfl) (fun _ _ _ h => h) (Or.inl ⟨by rfl, ?_⟩) ?_ ?_
      rotate_left
      · intro w'
        go_simp
        with_reducible rfl
      rotate_left
      · simp only [Act.put, List.setIfInBounds_toArray, List.set_cons_zero, List.set_cons_succ, i64_w, i32_w]
        rfl
      refine pure_ (i := 12) (N := some 27) (v := ?_) (a' := ?_) #[true, true, true, false, false, true, true, true, false, false, true, true, true, false, false, false, false, false] rfl rfl (by kernel_rfl) (fun _ _ _ h => h) (Or.inl ⟨by rfl, ?_⟩) ?_ ?_
      rotate_left
      · intro w'
        go_simp
        with_reducible rfl
      rotate_left
      · simp only [Act.put, List.setIfInBounds_toArray, List.set_cons_zero, List.set_cons_succ, i64_w, i32_w]
        rfl
      refine take_ (i := 3) (N := some 18) (v := ?_) (a' := ?_) #[true, true, true, true, false, true, true, true, false, false, true, true, true, false, false, false, false, false] rfl rfl (by kernel_rfl) (fun _ _ _ h => h) (Or.inl ⟨by rfl, ?_⟩) hHeld ?_ ?_
      rotate_left
      · rintro w' ⟨s0, s1, s2⟩
        go_simp
        with_reducible rfl
      rotate_left
      · simp only [Act.put, List.setIfInBounds_toArray, List.set_cons_zero, List.set_cons_succ, i64_w, i32_w]
        rfl
      refine pure_ (i := 4) (N := some 19) (v := ?_) (a' := ?_) #[true, true, true, true, true, true, true, true, false, false, true, true, true, false, false, false, false, false] rfl rfl (by kernel_rfl) (fun _ _ _ h => h) (Or.inl ⟨by rfl, ?_⟩) ?_ ?_
      rotate_left
      · intro w'
        go_simp
        with_reducible rfl
      rotate_left
      · simp only [Act.put, List.setIfInBounds_toArray, List.set_cons_zero, List.set_cons_succ, i64_w, i32_w]
        rfl
      refine take_ (i := 8) (N := some 23) (v := ?_) (a' := ?_) #[true, true, true, true, true, true, true, true, true, false, true, true, true, false, false, false, false, false] rfl rfl (by kernel_rfl) (fun _ _ _ h => h) (Or.inl ⟨by rfl, ?_⟩) hHeld ?_ ?_
      rotate_left
      · rintro w' ⟨s0, s1, s2⟩
        go_simp
        with_reducible rfl
      rotate_left
      · simp only [Act.put, List.setIfInBounds_toArray, List.set_cons_zero, List.set_cons_succ, i64_w, i32_w]
        rfl
      refine pure_ (i := 9) (N := some 24) (v := ?_) (a' := ?_) #[true, true, true, true, true, true, true, true, true, true, true, true, true, false, false, false, false, false] rfl rfl (by kernel_rfl) (fun _ _ _ h => h) (Or.inl ⟨by rfl, ?_⟩) ?_ ?_
      rotate_left
      · intro w'
        go_simp
        with_reducible rfl
      rotate_left
      · simp only [Act.put, List.setIfInBounds_toArray, List.set_cons_zero, List.set_cons_succ, i64_w, i32_w]
        rfl
      refine take_ (i := 13) (N := some 28) (v := ?_) (a' := ?_) #[true, true, true, true, true, true, true, true, true, true, true, true, true, true, false, false, false, false] rfl rfl (by kernel_rfl) (fun _ _ _ h => h) (Or.inl ⟨by rfl, ?_⟩) hHeld ?_ ?_
      rotate_left
      · rintro w' ⟨s0, s1, s2⟩
        go_simp
        with_reducible rfl
      rotate_left
      · simp only [Act.put, List.setIfInBounds_toArray, List.set_cons_zero, List.set_cons_succ, i64_w, i32_w]
        rfl
      refine pure_ (i := 14) (N := some 29) (v := ?_) (a' := ?_) #[true, true, true, true, true, true, true, true, true, true, true, true, true, true, true, false, false, false] rfl rfl (by kernel_rfl) (fun _ _ _ h => h) (Or.inl ⟨by rfl, ?_⟩) ?_ ?_
      rotate_left
      · intro w'
        go_simp
        with_reducible rfl
      rotate_left
      · simp only [Act.put, List.setIfInBounds_toArray, List.set_cons_zero, List.set_cons_succ, i64_w, i32_w]
        rfl
      refine pure_ (i := 15) (N := some 30) (v := ?_) (a' := ?_) #[true, true, true, true, true, true, true, true, true, true, true, true, true, true, true, true, false, false] rfl rfl (by kernel_rfl) (fun _ _ _ h => h) (Or.inl ⟨by rfl, ?_⟩) ?_ ?_
      rotate_left
      · intro w'
        go_simp
        with_reducible rfl
      rotate_left
      · simp only [Act.put, List.setIfInBounds_toArray, List.set_cons_zero, List.set_cons_succ, i64_w, i32_w]
        rfl
      refine one_ (i := 16) (N := some 6) #[true, true, true, true, true, true, true, true, true, true, true, true, true, true, true, true, true, false] rfl rfl (by kernel_rfl) (by decide) (fun K hK => ?_)
      refine value_ (w1 := ?_) (v := ?_) (by rfl) rfl ?_ ?_
      rotate_left 2
      · go_simp
        constructor
        · rfl
        · rfl
      generalize hW5 : World.alloc _ _ = w5
      obtain ⟨hB5, z5, k5⟩ := alloc_facts hW5
      have f50 : w5.frozen? ⟨w2.heap.size, 0, none⟩ = false := by rw [← hW5]; exact World.frozen?_alloc_at _ _ _ _ rfl
      have f51 : w5.frozen? ⟨w2.heap.size, 1, none⟩ = false := by rw [← hW5]; exact World.frozen?_alloc_at _ _ _ _ rfl
      have f52 : w5.frozen? ⟨w2.heap.size, 2, none⟩ = false := by rw [← hW5]; exact World.frozen?_alloc_at _ _ _ _ rfl
      have e50 : w5.cell? ⟨w2.heap.size, 0, none⟩ = _ := k5 0
      have e51 : w5.cell? ⟨w2.heap.size, 1, none⟩ = _ := k5 1
      have e52 : w5.cell? ⟨w2.heap.size, 2, none⟩ = _ := k5 2
      clear hW5 k5
      refine hK.out _ _ ⟨(hB5.cell (p := ⟨b0, off, none⟩) hg).trans d0, (hB5.cell (p := ⟨b0, off + 2, none⟩) hg).trans d1, (hB5.cell (p := ⟨b0, off + 4, none⟩) hg).trans d2⟩ (fun hHeld => ?_)
      clear hK K
      refine norm_ (a' := ?_) ?_ ?_
      rotate_left
      · show Act.put _ (some 6) _ = _
        simp only [Act.put, List.setIfInBounds_toArray, List.set_cons_zero, List.set_cons_succ, i64_w, i32_w]
        rfl
      refine last_ (i := 17) (N := none) #[true, true, true, true, true, true, true, true, true, true, true, true, true, true, true, true, true, true] rfl rfl (by kernel_rfl) (by decide) (fun K hK => ?_)
      refine skip_ (w1 := ?_) (by rfl) rfl ?_ ?_
      rotate_left
      · go_simp
        rfl
      refine hK.out _ _ ?_
      clear hK K
      refine done_ (by kernel_rfl) ?_

      generalize hW6 : World.drew _ = w6
      have hB6 : Below w2.heap.size w2 w6 := by
        rw [← hW6]
        exact (((((hB5)).setCell (p := ⟨w2.heap.size, 0, none⟩) (Nat.le_refl _) _).setCell (p := ⟨w2.heap.size, 1, none⟩) (Nat.le_refl _) _).setCell (p := ⟨w2.heap.size, 2, none⟩) (Nat.le_refl _) _).drew
      have j0 : w6.cell? ⟨w2.heap.size, 0, none⟩ = some (.int .i64 (e : Int)) := by rw [← hW6]; simp [go_sem, e50, e51, e52]
      have j1 : w6.cell? ⟨w2.heap.size, 1, none⟩ = some (.int .i64 (s : Int)) := by rw [← hW6]; simp [go_sem, e50, e51, e52]
      have j2 : w6.cell? ⟨w2.heap.size, 2, none⟩ = some (.int .u8 (t : Int)) := by rw [← hW6]; simp [go_sem, e50, e51, e52]
      have hz6 : w2.heap.size < w6.heap.size := by rw [← hW6]; simpa using z5
      clear hW6 e50 e51 e52 f50 f51 f52 hB5 z5
      go_wp2_with fail
      refine (right_ref _ _ _ _).mono ?_
      rw [hr]
      rintro r w7 ⟨rfl, hb7⟩
      have hB7 : Below w2.heap.size w2 w7 := hB6.trans (hb7.mono hB6.size)
      have i0 := (hB7.cell (p := ⟨w.heap.size, 0, none⟩) hz2).trans p0
      have i1 := (hB7.cell (p := ⟨w.heap.size, 1, none⟩) hz2).trans p1
      have i2 := (hB7.cell (p := ⟨w.heap.size, 2, none⟩) hz2).trans p2
      have n0 := (hB7.frozen (p := ⟨w.heap.size, 0, none⟩) hz2).trans (q 0)
      have n1 := (hB7.frozen (p := ⟨w.heap.size, 1, none⟩) hz2).trans (q 1)
      have n2 := (hB7.frozen (p := ⟨w.heap.size, 2, none⟩) hz2).trans (q 2)
      have m0 := (hb7.cell (p := ⟨w2.heap.size, 0, none⟩) hz6).trans j0
      have m1 := (hb7.cell (p := ⟨w2.heap.size, 1, none⟩) hz6).trans j1
      have m2 := (hb7.cell (p := ⟨w2.heap.size, 2, none⟩) hz6).trans j2
      have hBF : Below w.heap.size w w7 := hB2.trans (hB7.mono hB2.size)
      clear hB7 hb7 hB6 j0 j1 j2 p0 p1 p2 q d0 d1 d2
      go_wp2_with fail
      simp [bodyPost, results, Tryd.results8, go_sem, LPost, *]
      exact ((hBF.setCell (p := ⟨w.heap.size, 0, none⟩) (Nat.le_refl _) _).setCell (p := ⟨w.heap.size, 1, none⟩) (Nat.le_refl _) _).setCell (p := ⟨w.heap.size, 2, none⟩) (Nat.le_refl _) _
    | false =>
      rw [if_pos rfl]
      go_enter Tryd.func8, Tryd.ntmps8
      go_wp2_with fail
      generalize hW : World.alloc w _ = w1
      obtain ⟨hB1, z1, k1⟩ := alloc_facts hW
      refine (HX w1 (isB_up hib hB1)).mono ?_
      rintro r w2 ⟨v, rfl, hv, _, hb2⟩
      obtain ⟨b0, off, c2, rfl, hcz, hg, d0, d1, d2, _⟩ := three_out hv
      have hB2 : Below w.heap.size w w2 := hB1.trans (hb2.mono hB1.size)
      have p0 : w2.cell? ⟨w.heap.size, 0, none⟩ = _ := (hb2.cell (p := ⟨w.heap.size, 0, none⟩) z1).trans (k1 0)
      have p1 : w2.cell? ⟨w.heap.size, 1, none⟩ = _ := (hb2.cell (p := ⟨w.heap.size, 1, none⟩) z1).trans (k1 1)
      have p2 : w2.cell? ⟨w.heap.size, 2, none⟩ = _ := (hb2.cell (p := ⟨w.heap.size, 2, none⟩) z1).trans (k1 2)
      have q : ∀ i, w2.frozen? ⟨w.heap.size, i, none⟩ = false := fun i => (hb2.frozen (p := ⟨w.heap.size, i, none⟩) z1).trans (by rw [← hW]; exact World.frozen?_alloc_at _ _ _ _ rfl)
      have hz2 := Nat.lt_of_lt_of_le z1 hb2.size
      clear k1 hb2 hv hB1 HX hib hW z1
      go_wp2_with fail
      refine start_ (n := 18) (S := fun w' => w'.cell? ⟨b0, off, none⟩ = some (.int .u64 (s : Int)) ∧ w'.cell? ⟨b0, off + 2, none⟩ = some (.int .u64 (e : Int)) ∧ w'.cell? ⟨b0, off + 4, none⟩ = some (.int .u64 (t : Int))) (ds := [17]) #[false, false, false, false, false, false, false, false, false, false, false, false, false, false, false, false, false, false] (by kernel_rfl) rfl rfl ⟨d0, d1, d2⟩ (fun hHeld => ?_)
      refine pure_ (i := 0) (N := some 15) (v := ?_) (a' := ?_) #[true, false, false, false, false, false, false, false, false, false, false, false, false, false, false, false, false, false] rfl rfl (by kernel_rfl) (fun _ _ _ h => h) (Or.inl ⟨by rfl, ?_⟩) ?_ ?_
      rotate_left
      · intro w'
        go_simp
        with_reducible rfl
      rotate_left
      · simp only [Act.put, List.setIfInBounds_toArray, List.set_cons_zero, List.set_cons_succ, i64_w, i32_w]
        rfl
      refine pure_ (i := 1) (N := some 16) (v := ?_) (a' := ?_) #[true, true, false, false, false, false, false, false, false, false, false, false, false, false, false, false, false, false] rfl rfl (by kernel_rfl) (fun _ _ _ h => h) (Or.inl ⟨by rfl, ?_⟩) ?_ ?_
      rotate_left
      · intro w'
        go_simp
        with_reducible rfl
      rotate_left
      · simp only [Act.put, List.setIfInBounds_toArray, List.set_cons_zero, List.set_cons_succ, i64_w, i32_w]
        rfl
      refine pure_ (i := 2) (N := some 17) (v := ?_) (a' := ?_) #[true, true, true, false, false, false, false, false, false, false, false, false, false, false, false, false, false, false] rfl rfl (by kernel_rfl) (fun _ _ _ h => h) (Or.inl ⟨by rfl, ?_⟩) ?_ ?_
      rotate_left
      · intro w'
        go_simp
        with_reducible rfl
      rotate_left
      · simp only [Act.put, List.setIfInBounds_toArray, List.set_cons_zero, List.set_cons_succ, i64_w, i32_w]
        rfl
      refine pure_ (i := 5) (N := some 20) (v := ?_) (a' := ?_) #[true, true, true, false, false, true, false, false, false, false, false, false, false, false, false, false, false, false] rfl rfl (by kernel_rfl) (fun _ _ _ h => h) (Or.inl ⟨by rfl, ?_⟩) ?_ ?_
      rotate_left
      · intro w'
        go_simp
        with_reducible rfl
      rotate_left
      · simp only [Act.put, List.setIfInBounds_toArray, List.set_cons_zero, List.set_cons_succ, i64_w, i32_w]
        rfl
      refine pure_ (i := 6) (N := some 21) (v := ?_) (a' := ?_) #[true, true, true, false, false, true, true, false, false, false, false, false, false, false, false, false, false, false] rfl rfl (by kernel_rfl) (fun _ _ _ h => h) (Or.inl ⟨by rfl, ?_⟩) ?_ ?_
      rotate_left
      · intro w'
        go_simp
        with_reducible rfl
      rotate_left
      · simp only [Act.put, List.setIfInBounds_toArray, List.set_cons_zero, List.set_cons_succ, i64_w, i32_w]
        rfl
      refine pure_ (i := 7) (N := some 22) (v := ?_) (a' := ?_) #[true, true, true, false, false, true, true, true, false, false, false, false, false, false, false, false, false, false] rfl rfl (by kernel_rfl) (fun _ _ _ h => h) (Or.inl ⟨by rfl, ?_⟩) ?_ ?_
      rotate_left
      · intro w'
        go_simp
        with_reducible rfl
      rotate_left
      · simp only [Act.put, List.setIfInBounds_toArray, List.set_cons_zero, List.set_cons_succ, i64_w, i32_w]
        rfl
      refine pure_ (i := 10) (N := some 25) (v := ?_) (a' := ?_) #[true, true, true, false, false, true, true, true, false, false, true, false, false, false, false, false, false, false] rfl rfl (by kernel_rfl) (fun _ _ _ h => h) (Or.inl ⟨by rfl, ?_⟩) ?_ ?_
      rotate_left
      · intro w'
        go_simp
        with_reducible rfl
      rotate_left
      · simp only [Act.put, List.setIfInBounds_toArray, List.set_cons_zero, List.set_cons_succ, i64_w, i32_w]
        rfl
      refine pure_ (i := 11) (N := some 26) (v := ?_) (a' := ?_) #[true, true, true, false, false, true, true, true, false, false, true, true, false, false, false, false, false, false] rfl rfl (by kernel_rfl) (fun _ _ _ h => h) (Or.inl ⟨by rfl, ?_⟩) ?_ ?_
      rotate_left
      · intro w'
        go_simp
        with_reducible rfl
      rotate_left
      · simp only [Act.put, List.setIfInBounds_toArray, List.set_cons_zero, List.set_cons_succ, i64_w, i32_w]
        rfl
      refine pure_ (i := 12) (N := some 27) (v := ?_) (a' := ?_) #[true, true, true, false, false, true, true, true, false, false, true, true, true, false, false, false, false, false] rfl rfl (by kernel_rfl) (fun _ _ _ h => h) (Or.inl ⟨by rfl, ?_⟩) ?_ ?_
      rotate_left
      · intro w'
        go_simp
        with_reducible rfl
      rotate_left
      · simp only [Act.put, List.setIfInBounds_toArray, List.set_cons_zero, List.set_cons_succ, i64_w, i32_w]
        rfl
      refine take_ (i := 3) (N := some 18) (v := ?_) (a' := ?_) #[true, true, true, true, false, true, true, true, false, false, true, true, true, false, false, false, false, false] rfl rfl (by kernel_rfl) (fun _ _ _ h => h) (Or.inl ⟨by rfl, ?_⟩) hHeld ?_ ?_
      rotate_left
      · rintro w' ⟨s0, s1, s2⟩
        go_simp
        with_reducible rfl
      rotate_left
      · simp only [Act.put, List.setIfInBounds_toArray, List.set_cons_zero, List.set_cons_succ, i64_w, i32_w]
        rfl
      refine pure_ (i := 4) (N := some 19) (v := ?_) (a' := ?_) #[true, true, true, true, true, true, true, true, false, false, true, true, true, false, false, false, false, false] rfl rfl (by kernel_rfl) (fun _ _ _ h => h) (Or.inl ⟨by rfl, ?_⟩) ?_ ?_
      rotate_left
      · intro w'
        go_simp
        with_reducible rfl
      rotate_left
      · simp only [Act.put, List.setIfInBounds_toArray, List.set_cons_zero, List.set_cons_succ, i64_w, i32_w]
        rfl
      refine take_ (i := 8) (N := some 23) (v := ?_) (a' := ?_) #[true, true, true, true, true, true, true, true, true, false, true, true, true, false, false, false, false, false] rfl rfl (by kernel_rfl) (fun _ _ _ h => h) (Or.inl ⟨by rfl, ?_⟩) hHeld ?_ ?_
      rotate_left
      · rintro w' ⟨s0, s1, s2⟩
        go_simp
        with_reducible rfl
      rotate_left
      · simp only [Act.put, List.setIfInBounds_toArray, List.set_cons_zero, List.set_cons_succ, i64_w, i32_w]
        rfl
      refine pure_ (i := 9) (N := some 24) (v := ?_) (a' := ?_) #[true, true, true, true, true, true, true, true, true, true, true, true, true, false, false, false, false, false] rfl rfl (by kernel_rfl) (fun _ _ _ h => h) (Or.inl ⟨by rfl, ?_⟩) ?_ ?_
      rotate_left
      · intro w'
        go_simp
        with_reducible rfl
      rotate_left
      · simp only [Act.put, List.setIfInBounds_toArray, List.set_cons_zero, List.set_cons_succ, i64_w, i32_w]
        rfl
      refine take_ (i := 13) (N := some 28) (v := ?_) (a' := ?_) #[true, true, true, true, true, true, true, true, true, true, true, true, true, true, false, false, false, false] rfl rfl (by kernel_rfl) (fun _ _ _ h => h) (Or.inl ⟨by rfl, ?_⟩) hHeld ?_ ?_
      rotate_left
      · rintro w' ⟨s0, s1, s2⟩
        go_simp
        with_reducible rfl
      rotate_left
      · simp only [Act.put, List.setIfInBounds_toArray, List.set_cons_zero, List.set_cons_succ, i64_w, i32_w]
        rfl
      refine pure_ (i := 14) (N := some 29) (v := ?_) (a' := ?_) #[true, true, true, true, true, true, true, true, true, true, true, true, true, true, true, false, false, false] rfl rfl (by kernel_rfl) (fun _ _ _ h => h) (Or.inl ⟨by rfl, ?_⟩) ?_ ?_
      rotate_left
      · intro w'
        go_simp
        with_reducible rfl
      rotate_left
      · simp only [Act.put, List.setIfInBounds_toArray, List.set_cons_zero, List.set_cons_succ, i64_w, i32_w]
        rfl
      refine pure_ (i := 15) (N := some 30) (v := ?_) (a' := ?_) #[true, true, true, true, true, true, true, true, true, true, true, true, true, true, true, true, false, false] rfl rfl (by kernel_rfl) (fun _ _ _ h => h) (Or.inl ⟨by rfl, ?_⟩) ?_ ?_
      rotate_left
      · intro w'
        go_simp
        with_reducible rfl
      rotate_left
      · simp only [Act.put, List.setIfInBounds_toArray, List.set_cons_zero, List.set_cons_succ, i64_w, i32_w]
        rfl
      refine one_ (i := 16) (N := some 6) #[true, true, true, true, true, true, true, true, true, true, true, true, true, true, true, true, true, false] rfl rfl (by kernel_rfl) (by decide) (fun K hK => ?_)
      refine value_ (w1 := ?_) (v := ?_) (by rfl) rfl ?_ ?_
      rotate_left 2
      · go_simp
        constructor
        · rfl
        · rfl
      generalize hW5 : World.alloc _ _ = w5
      obtain ⟨hB5, z5, k5⟩ := alloc_facts hW5
      have f50 : w5.frozen? ⟨w2.heap.size, 0, none⟩ = false := by rw [← hW5]; exact World.frozen?_alloc_at _ _ _ _ rfl
      have f51 : w5.frozen? ⟨w2.heap.size, 1, none⟩ = false := by rw [← hW5]; exact World.frozen?_alloc_at _ _ _ _ rfl
      have f52 : w5.frozen? ⟨w2.heap.size, 2, none⟩ = false := by rw [← hW5]; exact World.frozen?_alloc_at _ _ _ _ rfl
      have e50 : w5.cell? ⟨w2.heap.size, 0, none⟩ = _ := k5 0
      have e51 : w5.cell? ⟨w2.heap.size, 1, none⟩ = _ := k5 1
      have e52 : w5.cell? ⟨w2.heap.size, 2, none⟩ = _ := k5 2
      clear hW5 k5
      refine hK.out _ _ ⟨(hB5.cell (p := ⟨b0, off, none⟩) hg).trans d0, (hB5.cell (p := ⟨b0, off + 2, none⟩) hg).trans d1, (hB5.cell (p := ⟨b0, off + 4, none⟩) hg).trans d2⟩ (fun hHeld => ?_)
      clear hK K
      refine norm_ (a' := ?_) ?_ ?_
      rotate_left
      · show Act.put _ (some 6) _ = _
        simp only [Act.put, List.setIfInBounds_toArray, List.set_cons_zero, List.set_cons_succ, i64_w, i32_w]
        rfl
      refine last_ (i := 17) (N := none) #[true, true, true, true, true, true, true, true, true, true, true, true, true, true, true, true, true, true] rfl rfl (by kernel_rfl) (by decide) (fun K hK => ?_)
      refine skip_ (w1 := ?_) (by rfl) rfl ?_ ?_
      rotate_left
      · go_simp
        rfl
      refine hK.out _ _ ?_
      clear hK K
      refine done_ (by kernel_rfl) ?_

      generalize hW6 : World.drew _ = w6
      have hB6 : Below w2.heap.size w2 w6 := by
        rw [← hW6]
        exact (((((hB5)).setCell (p := ⟨w2.heap.size, 0, none⟩) (Nat.le_refl _) _).setCell (p := ⟨w2.heap.size, 1, none⟩) (Nat.le_refl _) _).setCell (p := ⟨w2.heap.size, 2, none⟩) (Nat.le_refl _) _).drew
      have j0 : w6.cell? ⟨w2.heap.size, 0, none⟩ = some (.int .i64 (e : Int)) := by rw [← hW6]; simp [go_sem, e50, e51, e52]
      have j1 : w6.cell? ⟨w2.heap.size, 1, none⟩ = some (.int .i64 (s : Int)) := by rw [← hW6]; simp [go_sem, e50, e51, e52]
      have j2 : w6.cell? ⟨w2.heap.size, 2, none⟩ = some (.int .u8 (t : Int)) := by rw [← hW6]; simp [go_sem, e50, e51, e52]
      have hz6 : w2.heap.size < w6.heap.size := by rw [← hW6]; simpa using z5
      clear hW6 e50 e51 e52 f50 f51 f52 hB5 z5
      go_wp2_with fail
      refine (right_ref _ _ _ _).mono ?_
      rw [hr]
      rintro r w7 ⟨rfl, hb7⟩
      have hB7 : Below w2.heap.size w2 w7 := hB6.trans (hb7.mono hB6.size)
      have i0 := (hB7.cell (p := ⟨w.heap.size, 0, none⟩) hz2).trans p0
      have i1 := (hB7.cell (p := ⟨w.heap.size, 1, none⟩) hz2).trans p1
      have i2 := (hB7.cell (p := ⟨w.heap.size, 2, none⟩) hz2).trans p2
      have n0 := (hB7.frozen (p := ⟨w.heap.size, 0, none⟩) hz2).trans (q 0)
      have n1 := (hB7.frozen (p := ⟨w.heap.size, 1, none⟩) hz2).trans (q 1)
      have n2 := (hB7.frozen (p := ⟨w.heap.size, 2, none⟩) hz2).trans (q 2)
      have m0 := (hb7.cell (p := ⟨w2.heap.size, 0, none⟩) hz6).trans j0
      have m1 := (hb7.cell (p := ⟨w2.heap.size, 1, none⟩) hz6).trans j1
      have m2 := (hb7.cell (p := ⟨w2.heap.size, 2, none⟩) hz6).trans j2
      have hBF : Below w.heap.size w w7 := hB2.trans (hB7.mono hB2.size)
      clear hB7 hb7 hB6 j0 j1 j2 p0 p1 p2 q d0 d1 d2
      go_wp2_with fail
      simp [bodyPost, results, Tryd.results8, go_sem, LPost, *]
      exact ((hBF.setCell (p := ⟨w.heap.size, 0, none⟩) (Nat.le_refl _) _).setCell (p := ⟨w.heap.size, 1, none⟩) (Nat.le_refl _) _).setCell (p := ⟨w.heap.size, 2, none⟩) (Nat.le_refl _) _
  · rw [ldec_bad (by rw [hD]; decide)]
    have HX := fun w hib => rdecode_use acaS a l cap w (by unfold maxLen; decide) hib hlc hcm
    rw [acaS_list, hD] at HX
    go_enter Tryd.func8, Tryd.ntmps8
    go_wp2_with fail
    generalize hW : World.alloc w _ = w1
    obtain ⟨hB1, z1, k1⟩ := alloc_facts hW
    refine (HX w1 (isB_up hib hB1)).mono ?_
    rintro r w2 ⟨v, rfl, hv, _, hb2⟩
    have hB2 : Below w.heap.size w w2 := hB1.trans (hb2.mono hB1.size)
    have p0 : w2.cell? ⟨w.heap.size, 0, none⟩ = _ := (hb2.cell (p := ⟨w.heap.size, 0, none⟩) z1).trans (k1 0)
    have p1 : w2.cell? ⟨w.heap.size, 1, none⟩ = _ := (hb2.cell (p := ⟨w.heap.size, 1, none⟩) z1).trans (k1 1)
    have p2 : w2.cell? ⟨w.heap.size, 2, none⟩ = _ := (hb2.cell (p := ⟨w.heap.size, 2, none⟩) z1).trans (k1 2)
    have q : ∀ i, w2.frozen? ⟨w.heap.size, i, none⟩ = false := fun i => (hb2.frozen (p := ⟨w.heap.size, i, none⟩) z1).trans (by rw [← hW]; exact World.frozen?_alloc_at _ _ _ _ rfl)
    have n0 := q 0
    have n1 := q 1
    have n2 := q 2
    clear k1 hb2 hv hB1 HX hib hW z1 q
    go_wp2_with fail
    simp [bodyPost, results, Tryd.results8, go_sem, LPost, *]
    exact ((hB2.setCell (p := ⟨w.heap.size, 0, none⟩) (Nat.le_refl _) _).setCell (p := ⟨w.heap.size, 1, none⟩) (Nat.le_refl _) _).setCell (p := ⟨w.heap.size, 2, none⟩) (Nat.le_refl _) _
  · rw [ldec_bad (by rw [hD]; decide)]
    have HX := fun w hib => rdecode_use acaS a l cap w (by unfold maxLen; decide) hib hlc hcm
    rw [acaS_list, hD] at HX
    go_enter Tryd.func8, Tryd.ntmps8
    go_wp2_with fail
    generalize hW : World.alloc w _ = w1
    obtain ⟨hB1, z1, k1⟩ := alloc_facts hW
    refine (HX w1 (isB_up hib hB1)).mono ?_
    rintro r w2 ⟨v, rfl, hv, _, hb2⟩
    have hB2 : Below w.heap.size w w2 := hB1.trans (hb2.mono hB1.size)
    have p0 : w2.cell? ⟨w.heap.size, 0, none⟩ = _ := (hb2.cell (p := ⟨w.heap.size, 0, none⟩) z1).trans (k1 0)
    have p1 : w2.cell? ⟨w.heap.size, 1, none⟩ = _ := (hb2.cell (p := ⟨w.heap.size, 1, none⟩) z1).trans (k1 1)
    have p2 : w2.cell? ⟨w.heap.size, 2, none⟩ = _ := (hb2.cell (p := ⟨w.heap.size, 2, none⟩) z1).trans (k1 2)
    have q : ∀ i, w2.frozen? ⟨w.heap.size, i, none⟩ = false := fun i => (hb2.frozen (p := ⟨w.heap.size, i, none⟩) z1).trans (by rw [← hW]; exact World.frozen?_alloc_at _ _ _ _ rfl)
    have n0 := q 0
    have n1 := q 1
    have n2 := q 2
    clear k1 hb2 hv hB1 HX hib hW z1 q
    go_wp2_with fail
    simp [bodyPost, results, Tryd.results8, go_sem, LPost, *]
    exact ((hB2.setCell (p := ⟨w.heap.size, 0, none⟩) (Nat.le_refl _) _).setCell (p := ⟨w.heap.size, 1, none⟩) (Nat.le_refl _) _).setCell (p := ⟨w.heap.size, 2, none⟩) (Nat.le_refl _) _
end Go.Proofs.YtebdjaagdfbbgaaDoor.LeaseCode
