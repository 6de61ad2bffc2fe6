/- ScriptShort: what bytes say begins with what any of their beginnings say. -/
import Derived.Test.YtammpdifkpfafaaGreatDoorScriptAlive
namespace Go.Proofs.YtammpdifkpfafaaGreatDoor.LScriptShort
open Go.RowKit Flat Go.Proofs.YtammpdifkpfafaaGreatDoorW.PrintLast ByteMem ScriptSpec News
set_option linter.unusedSimpArgs false
set_option linter.unusedVariables false

set_option maxRecDepth 100000 in
set_option maxHeartbeats 4000000 in
theorem walk (a0 : Option Addr) (len0 cap0 : Nat) (r0 : List (List Value)) (a1 : Int) (w : World) (w0 : IsRows [.int .u8] w a0 len0 cap0 r0) (w1 : (Lit.int .u16 a1).wf = true) :
    Calls Tryz.prog 4 #[.slice a0 len0 cap0, .int .u16 a1] w fun e w' => e = .returned (.bool true) ∧ Below w.heap.size w w' := by
  obtain ⟨l, rfl, hlc, hcm, hib⟩ := rows_bytes w0
  have hcm' := hcm
  unfold maxLen at hcm'
  clear w0
  by_cases h2000 : 2000 < l.length
  · have hI : (2000 : Int) < (l.length : Int) := by omega
    clear hib
    go_enter Tryz.func4, Tryz.ntmps4
    go_wp2_with fail
    refine (alive_any _).mono ?_
    rintro e v1 ⟨rfl, hb1⟩
    go_wp2_with fail
    go_ret
    exact ⟨rfl, hb1⟩
  · have hI : ¬ (2000 : Int) < (l.length : Int) := by omega
    have HIB := Lib.hid hib
    clear hib
    obtain ⟨q0, q1⟩ := bounds_u16 w1
    obtain ⟨m, rfl⟩ : ∃ m : Nat, a1 = (m : Int) := ⟨a1.toNat, by omega⟩
    clear w1
    have hroom := dec_room 0 l (by omega)
    obtain ⟨p, hp, hpl, hmin⟩ : ∃ p : Nat, p ≤ l.length ∧ (l.take p).length = p ∧ (if l.length < m then (l.length : Int) else (m : Int)) = (p : Int) := ⟨min m l.length, by omega, by simp, by split <;> omega⟩
    have hw64 : wrap64 (m : Int) = (m : Int) := by unfold wrap64; omega
    have hpc : (p : Int) ≤ (cap0 : Int) := by omega
    have hpre := dec_take 0 l p
    have HD := Lib.hid (fun W (h : IsB W W.heap.size a0 (l.take p)) => by
      have := Script.decode_any W a0 (l.take p) cap0 h (by rw [hpl]; omega) hcm
      rw [hpl] at this
      exact this)
    have HPRE := Lib.hid hpre
    have HPL := Lib.hid hpl
    clear hpre hpl
    go_enter Tryz.func4, Tryz.ntmps4
    go_wp2_with fail
    refine (alive_any _).mono ?_
    rintro e v1 ⟨rfl, hb1⟩
    have HB1 := Lib.hid hb1
    have HIB1 := Lib.hid ((HIB.out.below hb1).mono hb1.size)
    clear hb1
    go_wp2_with fail
    refine start_ (n := 12) (S := fun w' => Below v1.heap.size v1 w') (ds := []) #[false, false, false, false, false, false, false, false, false, false, false, false] (by kernel_rfl) rfl rfl ((still_drew v1).1) (fun hHeld => ?_)
    refine pure_ (i := 0) (N := some 13) (v := ?_) (a' := ?_) #[true, false, false, false, false, false, false, false, false, false, false, false] rfl rfl (by kernel_rfl) (fun _ _ _ h => h) (Or.inl ⟨by rfl, ?_⟩) ?_ ?_
    rotate_left
    · intro w'
      go_simp
      with_reducible rfl
    rotate_left
    · simp only [Act.put, List.setIfInBounds_toArray, List.set_cons_zero, List.set_cons_succ, i64_w, i32_w]
      rfl
    refine pure_ (i := 2) (N := some 15) (v := ?_) (a' := ?_) #[true, false, true, false, false, false, false, false, false, false, false, false] rfl rfl (by kernel_rfl) (fun _ _ _ h => h) (Or.inl ⟨by rfl, ?_⟩) ?_ ?_
    rotate_left
    · intro w'
      go_simp
      with_reducible rfl
    rotate_left
    · simp only [Act.put, List.setIfInBounds_toArray, List.set_cons_zero, List.set_cons_succ, i64_w, i32_w]
      rfl
    refine pure_ (i := 3) (N := some 16) (v := ?_) (a' := ?_) #[true, false, true, true, false, false, false, false, false, false, false, false] rfl rfl (by kernel_rfl) (fun _ _ _ h => h) (Or.inl ⟨by rfl, ?_⟩) ?_ ?_
    rotate_left
    · intro w'
      go_simp
      with_reducible rfl
    rotate_left
    · simp only [Act.put, List.setIfInBounds_toArray, List.set_cons_zero, List.set_cons_succ, i64_w, i32_w]
      rfl
    refine pure_ (i := 4) (N := some 17) (v := ?_) (a' := ?_) #[true, false, true, true, true, false, false, false, false, false, false, false] rfl rfl (by kernel_rfl) (fun _ _ _ h => h) (Or.inl ⟨by rfl, ?_⟩) ?_ ?_
    rotate_left
    · intro w'
      go_simp
      with_reducible rfl
    rotate_left
    · simp only [Act.put, List.setIfInBounds_toArray, List.set_cons_zero, List.set_cons_succ, i64_w, i32_w]
      rfl
    refine pure_ (i := 5) (N := some 18) (v := ?_) (a' := ?_) #[true, false, true, true, true, true, false, false, false, false, false, false] rfl rfl (by kernel_rfl) (fun _ _ _ h => h) (Or.inl ⟨by rfl, ?_⟩) ?_ ?_
    rotate_left
    · intro w'
      go_simp
      with_reducible rfl
    rotate_left
    · simp only [Act.put, List.setIfInBounds_toArray, List.set_cons_zero, List.set_cons_succ, i64_w, i32_w]
      rfl
    refine pure_ (i := 6) (N := some 19) (v := ?_) (a' := ?_) #[true, false, true, true, true, true, true, false, false, false, false, false] rfl rfl (by kernel_rfl) (fun _ _ _ h => h) (Or.inl ⟨by rfl, ?_⟩) ?_ ?_
    rotate_left
    · intro w'
      go_simp
      with_reducible rfl
    rotate_left
    · simp only [Act.put, List.setIfInBounds_toArray, List.set_cons_zero, List.set_cons_succ, i64_w, i32_w]
      rfl
    refine pure_ (i := 7) (N := some 20) (v := ?_) (a' := ?_) #[true, false, true, true, true, true, true, true, false, false, false, false] rfl rfl (by kernel_rfl) (fun _ _ _ h => h) (Or.inl ⟨by rfl, ?_⟩) ?_ ?_
    rotate_left
    · intro w'
      go_simp
      with_reducible rfl
    rotate_left
    · simp only [Act.put, List.setIfInBounds_toArray, List.set_cons_zero, List.set_cons_succ, i64_w, i32_w]
      rfl
    refine pure_ (i := 8) (N := some 21) (v := ?_) (a' := ?_) #[true, false, true, true, true, true, true, true, true, false, false, false] rfl rfl (by kernel_rfl) (fun _ _ _ h => h) (Or.inl ⟨by rfl, ?_⟩) ?_ ?_
    rotate_left
    · intro w'
      go_simp
      with_reducible rfl
    rotate_left
    · simp only [Act.put, List.setIfInBounds_toArray, List.set_cons_zero, List.set_cons_succ, i64_w, i32_w]
      rfl
    refine one_ (i := 1) (N := some 14) #[true, true, true, true, true, true, true, true, true, false, false, false] rfl rfl (by kernel_rfl) (by decide) (fun K hK => ?_)
    refine goes_ Tryz.func9 (by kernel_rfl) rfl #[.slice a0 l.length cap0] (by rfl) rfl rfl (by simp only [List.map_toArray, List.map_cons, List.map_nil]; rfl) ?_
    refine (Script.decode_any _ a0 l cap0 ((HIB1.out.below hHeld).mono hHeld.size) hlc hcm).mono ?_
    rintro r v2 ⟨va, rfl, hoa, hb2⟩
    refine ⟨_, rfl, ?_⟩
    obtain ⟨aa, ca, rfl⟩ := Script.owns_slice hoa
    have HOA2 := Lib.hid hoa
    have hb12 := hHeld.trans (hb2.mono hHeld.size)
    clear hoa
    refine hK.out _ _ (hb12) (fun hHeld => ?_)
    clear hK K
    refine norm_ (a' := ?_) ?_ ?_
    rotate_left
    · show Act.put _ (some 14) _ = _
      simp only [Act.put, List.setIfInBounds_toArray, List.set_cons_zero, List.set_cons_succ, i64_w, i32_w]
      rfl
    refine one_ (i := 9) (N := some 22) #[true, true, true, true, true, true, true, true, true, true, false, false] rfl rfl (by kernel_rfl) (by decide) (fun K hK => ?_)
    refine goes_ Tryz.func9 (by kernel_rfl) rfl #[.slice a0 p cap0] (by rfl) rfl rfl (by simp only [List.map_toArray, List.map_cons, List.map_nil]; rfl) ?_
    refine (HD.out _ (((HIB1.out.take p).below hHeld).mono hHeld.size)).mono ?_
    rintro r v3 ⟨vb, rfl, hob, hb3⟩
    refine ⟨_, rfl, ?_⟩
    obtain ⟨ab, cb, rfl⟩ := Script.owns_slice hob
    have HOB := Lib.hid hob
    have HOA := Lib.hid (Script.owns_below HOA2.out hb3)
    have hb13 := hHeld.trans (hb3.mono hHeld.size)
    clear hob HOA2
    refine hK.out _ _ (hb13) (fun hHeld => ?_)
    clear hK K
    refine norm_ (a' := ?_) ?_ ?_
    rotate_left
    · show Act.put _ (some 22) _ = _
      simp only [Act.put, List.setIfInBounds_toArray, List.set_cons_zero, List.set_cons_succ, i64_w, i32_w]
      rfl
    refine pure_ (i := 10) (N := some 5) (v := ?_) (a' := ?_) #[true, true, true, true, true, true, true, true, true, true, true, false] rfl rfl (by kernel_rfl) (fun _ _ _ h => h) (Or.inl ⟨by rfl, ?_⟩) ?_ ?_
    rotate_left
    · intro w'
      go_simp
      with_reducible rfl
    rotate_left
    · simp only [Act.put, List.setIfInBounds_toArray, List.set_cons_zero, List.set_cons_succ, i64_w, i32_w]
      rfl
    refine pure_ (i := 11) (N := some 6) (v := ?_) (a' := ?_) #[true, true, true, true, true, true, true, true, true, true, true, true] rfl rfl (by kernel_rfl) (fun _ _ _ h => h) (Or.inl ⟨by rfl, ?_⟩) ?_ ?_
    rotate_left
    · intro w'
      go_simp
      with_reducible rfl
    rotate_left
    · simp only [Act.put, List.setIfInBounds_toArray, List.set_cons_zero, List.set_cons_succ, i64_w, i32_w]
      rfl
    refine done_ (by kernel_rfl) ?_

    have HB3 := Lib.hid (HB1.out.trans (hHeld.mono HB1.out.size))
    clear hHeld HB1 HIB1 HD HIB
    obtain ⟨rest, hrest⟩ := HPRE.out
    generalize hst : dec 0 (l.take p) = st at *
    have hall : dec 0 l = st ++ rest := hrest.symm
    have hlen2 : (dec 0 l).length = st.length + rest.length := by rw [hall, List.length_append]
    generalize hal : dec 0 l = al at *
    have HALL := Lib.hid hall
    clear hrest HPRE hst hal hall
    have hI2 : ¬ (al.length : Int) < (st.length : Int) := by omega
    have hI3 : ¬ (300 : Int) < (al.length : Int) := by omega
    have HLEN2 := Lib.hid hlen2
    clear hlen2
    go_wp2_with fail
    go_loopw [35] (fun i wr => ∃ k : Nat, k ≤ st.length ∧ i = .int .i64 (k : Int) ∧ v3.grownBy wr none) (fun i _ => st.length - (intOf i).toNat)
    case atStart => exact ⟨0, by omega, rfl, ⟨rfl, rfl, rfl, Nat.le_refl _, fun _ _ _ => rfl⟩⟩
    case round =>
      obtain ⟨wo, h_wo⟩ : ∃ v : World, v = wr := ⟨_, rfl⟩; subst h_wo
      obtain ⟨k, hk, rfl, hG⟩ := hrel
      have hb := below_grown hG
      have HB := Lib.hid hb
      clear hG hb
      by_cases hkn : k = st.length
      · subst hkn
        go_wp2_with fail
        go_ret
        exact ⟨rfl, HB3.out.trans (HB.out.mono HB3.out.size)⟩
      · have hkI : (k : Int) < (st.length : Int) := by omega
        have hkl : k < st.length := by omega
        have hkal : (k : Int) < (al.length : Int) := by have := HLEN2.out; omega
        have hk0 : (0 : Int) ≤ (k : Int) := by omega
        obtain ⟨ga, ca', hga, _, _, _, hgal, hca⟩ := Script.owns_read HOA.out (by omega)
        obtain ⟨gb, cb', hgb, _, _, _, hgbl, hcb⟩ := Script.owns_read HOB.out (by omega)
        obtain ⟨rfl, rfl⟩ : aa = some ⟨ga, 0, none⟩ ∧ ca = ca' := by simpa using hga
        obtain ⟨rfl, rfl⟩ : ab = some ⟨gb, 0, none⟩ ∧ cb = cb' := by simpa using hgb
        obtain ⟨x0, x1, x2, x3, x4, x5, x6⟩ := hca k (by omega)
        obtain ⟨y0, y1, y2, y3, y4, y5, y6⟩ := hcb k (by omega)
        have hsk : al[k]'(by omega) = st[k]'(by omega) := by simp only [HALL.out]; exact List.getElem_append_left _
        rw [hsk] at x0 x1 x2 x3 x4 x5 x6
        clear hsk
        generalize st[k]'(by omega) = s at *
        replace x0 := (HB.out.cell (p := ⟨ga, k * 7, none⟩) hgal).trans x0
        replace x1 := (HB.out.cell (p := ⟨ga, k * 7 + 1, none⟩) hgal).trans x1
        replace x2 := (HB.out.cell (p := ⟨ga, k * 7 + 2, none⟩) hgal).trans x2
        replace x3 := (HB.out.cell (p := ⟨ga, k * 7 + 3, none⟩) hgal).trans x3
        replace x4 := (HB.out.cell (p := ⟨ga, k * 7 + 4, none⟩) hgal).trans x4
        replace x5 := (HB.out.cell (p := ⟨ga, k * 7 + 5, none⟩) hgal).trans x5
        replace x6 := (HB.out.cell (p := ⟨ga, k * 7 + 6, none⟩) hgal).trans x6
        replace y0 := (HB.out.cell (p := ⟨gb, k * 7, none⟩) hgbl).trans y0
        replace y1 := (HB.out.cell (p := ⟨gb, k * 7 + 1, none⟩) hgbl).trans y1
        replace y2 := (HB.out.cell (p := ⟨gb, k * 7 + 2, none⟩) hgbl).trans y2
        replace y3 := (HB.out.cell (p := ⟨gb, k * 7 + 3, none⟩) hgbl).trans y3
        replace y4 := (HB.out.cell (p := ⟨gb, k * 7 + 4, none⟩) hgbl).trans y4
        replace y5 := (HB.out.cell (p := ⟨gb, k * 7 + 5, none⟩) hgbl).trans y5
        replace y6 := (HB.out.cell (p := ⟨gb, k * 7 + 6, none⟩) hgbl).trans y6
        have hne := fun W => step_same s W
        clear hca hcb hga hgb HOA HOB
        go_wp2_with fail
        refine start_ (n := 9) (S := fun w' => w'.cell? ⟨ga, k * 7, none⟩ = some (.int .i64 s.what) ∧ w'.cell? ⟨ga, k * 7 + 1, none⟩ = some (.int .i64 s.tx) ∧ w'.cell? ⟨ga, k * 7 + 2, none⟩ = some (.int .u8 s.a) ∧ w'.cell? ⟨ga, k * 7 + 3, none⟩ = some (.int .u8 s.b) ∧ w'.cell? ⟨ga, k * 7 + 4, none⟩ = some (.int .i64 s.kind) ∧ w'.cell? ⟨ga, k * 7 + 5, none⟩ = some (.int .u8 s.key) ∧ w'.cell? ⟨ga, k * 7 + 6, none⟩ = some (.int .i64 s.n) ∧ w'.cell? ⟨gb, k * 7, none⟩ = some (.int .i64 s.what) ∧ w'.cell? ⟨gb, k * 7 + 1, none⟩ = some (.int .i64 s.tx) ∧ w'.cell? ⟨gb, k * 7 + 2, none⟩ = some (.int .u8 s.a) ∧ w'.cell? ⟨gb, k * 7 + 3, none⟩ = some (.int .u8 s.b) ∧ w'.cell? ⟨gb, k * 7 + 4, none⟩ = some (.int .i64 s.kind) ∧ w'.cell? ⟨gb, k * 7 + 5, none⟩ = some (.int .u8 s.key) ∧ w'.cell? ⟨gb, k * 7 + 6, none⟩ = some (.int .i64 s.n)) (ds := []) #[false, false, false, false, false, false, false, false, false] (by kernel_rfl) rfl rfl ⟨x0, x1, x2, x3, x4, x5, x6, y0, y1, y2, y3, y4, y5, y6⟩ (fun hHeld => ?_)
        refine pure_ (i := 0) (N := some 38) (v := ?_) (a' := ?_) #[true, false, false, false, false, false, false, false, false] rfl rfl (by kernel_rfl) (fun _ _ _ h => h) (Or.inl ⟨by rfl, ?_⟩) ?_ ?_
        rotate_left
        · intro w'
          go_simp
          with_reducible rfl
        rotate_left
        · simp only [Act.put, List.setIfInBounds_toArray, List.set_cons_zero, List.set_cons_succ, i64_w, i32_w]
          rfl
        refine pure_ (i := 1) (N := some 39) (v := ?_) (a' := ?_) #[true, true, false, false, false, false, false, false, false] rfl rfl (by kernel_rfl) (fun _ _ _ h => h) (Or.inl ⟨by rfl, ?_⟩) ?_ ?_
        rotate_left
        · intro w'
          go_simp
          with_reducible rfl
        rotate_left
        · simp only [Act.put, List.setIfInBounds_toArray, List.set_cons_zero, List.set_cons_succ, i64_w, i32_w]
          rfl
        refine pure_ (i := 2) (N := some 40) (v := ?_) (a' := ?_) #[true, true, true, false, false, false, false, false, false] rfl rfl (by kernel_rfl) (fun _ _ _ h => h) (Or.inl ⟨by rfl, ?_⟩) ?_ ?_
        rotate_left
        · intro w'
          go_simp
          with_reducible rfl
        rotate_left
        · simp only [Act.put, List.setIfInBounds_toArray, List.set_cons_zero, List.set_cons_succ, i64_w, i32_w]
          rfl
        refine pure_ (i := 4) (N := some 42) (v := ?_) (a' := ?_) #[true, true, true, false, true, false, false, false, false] rfl rfl (by kernel_rfl) (fun _ _ _ h => h) (Or.inl ⟨by rfl, ?_⟩) ?_ ?_
        rotate_left
        · intro w'
          go_simp
          with_reducible rfl
        rotate_left
        · simp only [Act.put, List.setIfInBounds_toArray, List.set_cons_zero, List.set_cons_succ, i64_w, i32_w]
          rfl
        refine pure_ (i := 5) (N := some 43) (v := ?_) (a' := ?_) #[true, true, true, false, true, true, false, false, false] rfl rfl (by kernel_rfl) (fun _ _ _ h => h) (Or.inl ⟨by rfl, ?_⟩) ?_ ?_
        rotate_left
        · intro w'
          go_simp
          with_reducible rfl
        rotate_left
        · simp only [Act.put, List.setIfInBounds_toArray, List.set_cons_zero, List.set_cons_succ, i64_w, i32_w]
          rfl
        refine pure_ (i := 6) (N := some 44) (v := ?_) (a' := ?_) #[true, true, true, false, true, true, true, false, false] rfl rfl (by kernel_rfl) (fun _ _ _ h => h) (Or.inl ⟨by rfl, ?_⟩) ?_ ?_
        rotate_left
        · intro w'
          go_simp
          with_reducible rfl
        rotate_left
        · simp only [Act.put, List.setIfInBounds_toArray, List.set_cons_zero, List.set_cons_succ, i64_w, i32_w]
          rfl
        refine take_ (i := 3) (N := some 41) (v := ?_) (a' := ?_) #[true, true, true, true, true, true, true, false, false] rfl rfl (by kernel_rfl) (fun _ _ _ h => h) (Or.inl ⟨by rfl, ?_⟩) hHeld ?_ ?_
        rotate_left
        · rintro w' ⟨s0, s1, s2, s3, s4, s5, s6, s7, s8, s9, s10, s11, s12, s13⟩
          go_simp
          with_reducible rfl
        rotate_left
        · simp only [Act.put, List.setIfInBounds_toArray, List.set_cons_zero, List.set_cons_succ, i64_w, i32_w]
          rfl
        refine take_ (i := 7) (N := some 45) (v := ?_) (a' := ?_) #[true, true, true, true, true, true, true, true, false] rfl rfl (by kernel_rfl) (fun _ _ _ h => h) (Or.inl ⟨by rfl, ?_⟩) hHeld ?_ ?_
        rotate_left
        · rintro w' ⟨s0, s1, s2, s3, s4, s5, s6, s7, s8, s9, s10, s11, s12, s13⟩
          go_simp
          with_reducible rfl
        rotate_left
        · simp only [Act.put, List.setIfInBounds_toArray, List.set_cons_zero, List.set_cons_succ, i64_w, i32_w]
          rfl
        refine pure_ (i := 8) (N := some 46) (v := ?_) (a' := ?_) #[true, true, true, true, true, true, true, true, true] rfl rfl (by kernel_rfl) (fun _ _ _ h => h) (Or.inl ⟨by rfl, ?_⟩) ?_ ?_
        rotate_left
        · intro w'
          go_simp
          with_reducible rfl
        rotate_left
        · simp only [Act.put, List.setIfInBounds_toArray, List.set_cons_zero, List.set_cons_succ, i64_w, i32_w]
          rfl
        refine done_ (by kernel_rfl) ?_

        go_wp2_with fail
        exact ⟨⟨k + 1, by omega, by go_num, grown_of_below HB.out.drew⟩, by simp [intOf]; omega⟩
end Go.Proofs.YtammpdifkpfafaaGreatDoor.LScriptShort
