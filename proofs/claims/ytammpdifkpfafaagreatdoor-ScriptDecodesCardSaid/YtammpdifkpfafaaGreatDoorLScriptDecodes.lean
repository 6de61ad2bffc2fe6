/- ScriptDecodes: the steps that any bytes say are the document's. -/
import Derived.Test.YtammpdifkpfafaaGreatDoorScriptAlive
import Derived.Test.YtammpdifkpfafaaGreatDoorScriptRDec
namespace Go.Proofs.YtammpdifkpfafaaGreatDoor.LScriptDecodes
open Go.RowKit Flat Go.Proofs.YtammpdifkpfafaaGreatDoorW.PrintLast ByteMem ScriptSpec News
set_option linter.unusedSimpArgs false
set_option linter.unusedVariables false

set_option maxRecDepth 100000 in
set_option maxHeartbeats 4000000 in
theorem walk (a0 : Option Addr) (len0 cap0 : Nat) (r0 : List (List Value)) (w : World) (w0 : IsRows [.int .u8] w a0 len0 cap0 r0) :
    Calls Tryz.prog 3 #[.slice a0 len0 cap0] w fun e w' => e = .returned (.bool true) ∧ Below w.heap.size w w' := by
  obtain ⟨l, rfl, hlc, hcm, hib⟩ := rows_bytes w0
  have hcm' := hcm
  unfold maxLen at hcm'
  clear w0
  by_cases h2000 : 2000 < l.length
  · have hI : (2000 : Int) < (l.length : Int) := by omega
    clear hib
    go_enter Tryz.func3, Tryz.ntmps3
    go_wp2_with fail
    refine (alive_any _).mono ?_
    rintro e v1 ⟨rfl, hb1⟩
    go_wp2_with fail
    go_ret
    exact ⟨rfl, hb1⟩
  · have hI : ¬ (2000 : Int) < (l.length : Int) := by omega
    have HIB := Lib.hid hib
    clear hib
    go_enter Tryz.func3, Tryz.ntmps3
    go_wp2_with fail
    refine (alive_any _).mono ?_
    rintro e v1 ⟨rfl, hb1⟩
    have HB1 := Lib.hid hb1
    clear hb1
    go_wp2_with fail
    refine (Script.decode_any v1 a0 l cap0 ((HIB.out.below HB1.out).mono HB1.out.size) hlc hcm).mono ?_
    rintro e v2 ⟨va, rfl, hoa, hb2⟩
    have HB2 := Lib.hid (HB1.out.trans (hb2.mono HB1.out.size))
    obtain ⟨aa, ca, rfl⟩ := Script.owns_slice hoa
    have HOA := Lib.hid hoa
    clear hb2 HB1 hoa
    go_wp2_with fail
    refine (Script.rdecode_any v2 a0 l cap0 ((HIB.out.below HB2.out).mono HB2.out.size) hlc hcm).mono ?_
    rintro e v3 ⟨vb, rfl, hob, hb3⟩
    have HB3 := Lib.hid (HB2.out.trans (hb3.mono HB2.out.size))
    obtain ⟨ab, cb, rfl⟩ := Script.ownq_slice hob
    have HOA3 := Lib.hid (Script.owns_below HOA.out hb3)
    have HOB := Lib.hid hob
    have hlen := dec_room 0 l (by omega)
    generalize dec 0 l = st at *
    clear hb3 HB2 hob HOA HIB
    go_wp2_with fail
    go_loopw [22] (fun i wr => ∃ k : Nat, k ≤ st.length ∧ i = .int .i64 (k : Int) ∧ v3.grownBy wr none) (fun i _ => st.length - (intOf i).toNat)
    case atStart => exact ⟨0, by omega, rfl, ⟨rfl, rfl, rfl, Nat.le_refl _, fun _ _ _ => rfl⟩⟩
    case round =>
      obtain ⟨wo, h_wo⟩ : ∃ v : World, v = wr := ⟨_, rfl⟩; subst h_wo
      obtain ⟨k, hk, rfl, hG⟩ := hrel
      have hb := below_grown hG
      have HB := Lib.hid hb
      clear hG hb
      by_cases hkn : k = st.length
      · subst hkn
        go_wp2_with fail
        go_ret
        exact ⟨rfl, HB3.out.trans (HB.out.mono HB3.out.size)⟩
      · have hkI : (k : Int) < (st.length : Int) := by omega
        have hk0 : (0 : Int) ≤ (k : Int) := by omega
        have hkl : k < st.length := by omega
        obtain ⟨ga, ca', hga, _, _, _, hgal, hca⟩ := Script.owns_read HOA3.out (by omega)
        obtain ⟨gb, cb', hgb, _, _, _, hgbl, hcb⟩ := Script.ownq_read HOB.out (by omega)
        obtain ⟨rfl, rfl⟩ : aa = some ⟨ga, 0, none⟩ ∧ ca = ca' := by simpa using hga
        obtain ⟨rfl, rfl⟩ : ab = some ⟨gb, 0, none⟩ ∧ cb = cb' := by simpa using hgb
        obtain ⟨x0, x1, x2, x3, x4, x5, x6⟩ := hca k hkl
        obtain ⟨y0, y1, y2, y3, y4, y5, y6⟩ := hcb k hkl
        generalize st[k] = s at *
        replace x0 := (HB.out.cell (p := ⟨ga, k * 7, none⟩) hgal).trans x0
        replace x1 := (HB.out.cell (p := ⟨ga, k * 7 + 1, none⟩) hgal).trans x1
        replace x2 := (HB.out.cell (p := ⟨ga, k * 7 + 2, none⟩) hgal).trans x2
        replace x3 := (HB.out.cell (p := ⟨ga, k * 7 + 3, none⟩) hgal).trans x3
        replace x4 := (HB.out.cell (p := ⟨ga, k * 7 + 4, none⟩) hgal).trans x4
        replace x5 := (HB.out.cell (p := ⟨ga, k * 7 + 5, none⟩) hgal).trans x5
        replace x6 := (HB.out.cell (p := ⟨ga, k * 7 + 6, none⟩) hgal).trans x6
        replace y0 := (HB.out.cell (p := ⟨gb, k * 7, none⟩) hgbl).trans y0
        replace y1 := (HB.out.cell (p := ⟨gb, k * 7 + 1, none⟩) hgbl).trans y1
        replace y2 := (HB.out.cell (p := ⟨gb, k * 7 + 2, none⟩) hgbl).trans y2
        replace y3 := (HB.out.cell (p := ⟨gb, k * 7 + 3, none⟩) hgbl).trans y3
        replace y4 := (HB.out.cell (p := ⟨gb, k * 7 + 4, none⟩) hgbl).trans y4
        replace y5 := (HB.out.cell (p := ⟨gb, k * 7 + 5, none⟩) hgbl).trans y5
        replace y6 := (HB.out.cell (p := ⟨gb, k * 7 + 6, none⟩) hgbl).trans y6
        have hne := fun W => rstep_same s W
        have HOA3' := HOA3
        clear hca hcb hga hgb HOA3 HOB HOA3'
        go_wp2_with fail
        refine start_ (n := 9) (S := fun w' => w'.cell? ⟨ga, k * 7, none⟩ = some (.int .i64 s.what) ∧ w'.cell? ⟨ga, k * 7 + 1, none⟩ = some (.int .i64 s.tx) ∧ w'.cell? ⟨ga, k * 7 + 2, none⟩ = some (.int .u8 s.a) ∧ w'.cell? ⟨ga, k * 7 + 3, none⟩ = some (.int .u8 s.b) ∧ w'.cell? ⟨ga, k * 7 + 4, none⟩ = some (.int .i64 s.kind) ∧ w'.cell? ⟨ga, k * 7 + 5, none⟩ = some (.int .u8 s.key) ∧ w'.cell? ⟨ga, k * 7 + 6, none⟩ = some (.int .i64 s.n) ∧ w'.cell? ⟨gb, k * 7, none⟩ = some (.int .i64 s.what) ∧ w'.cell? ⟨gb, k * 7 + 1, none⟩ = some (.int .i64 s.tx) ∧ w'.cell? ⟨gb, k * 7 + 2, none⟩ = some (.int .u8 s.a) ∧ w'.cell? ⟨gb, k * 7 + 3, none⟩ = some (.int .u8 s.b) ∧ w'.cell? ⟨gb, k * 7 + 4, none⟩ = some (.int .i64 s.kind) ∧ w'.cell? ⟨gb, k * 7 + 5, none⟩ = some (.int .u8 s.key) ∧ w'.cell? ⟨gb, k * 7 + 6, none⟩ = some (.int .i64 s.n)) (ds := []) #[false, false, false, false, false, false, false, false, false] (by kernel_rfl) rfl rfl ⟨x0, x1, x2, x3, x4, x5, x6, y0, y1, y2, y3, y4, y5, y6⟩ (fun hHeld => ?_)
        refine pure_ (i := 0) (N := some 25) (v := ?_) (a' := ?_) #[true, false, false, false, false, false, false, false, false] rfl rfl (by kernel_rfl) (fun _ _ _ h => h) (Or.inl ⟨by rfl, ?_⟩) ?_ ?_
        rotate_left
        · intro w'
          go_simp
          with_reducible rfl
        rotate_left
        · simp only [Act.put, List.setIfInBounds_toArray, List.set_cons_zero, List.set_cons_succ, i64_w, i32_w]
          rfl
        refine pure_ (i := 1) (N := some 26) (v := ?_) (a' := ?_) #[true, true, false, false, false, false, false, false, false] rfl rfl (by kernel_rfl) (fun _ _ _ h => h) (Or.inl ⟨by rfl, ?_⟩) ?_ ?_
        rotate_left
        · intro w'
          go_simp
          with_reducible rfl
        rotate_left
        · simp only [Act.put, List.setIfInBounds_toArray, List.set_cons_zero, List.set_cons_succ, i64_w, i32_w]
          rfl
        refine pure_ (i := 2) (N := some 27) (v := ?_) (a' := ?_) #[true, true, true, false, false, false, false, false, false] rfl rfl (by kernel_rfl) (fun _ _ _ h => h) (Or.inl ⟨by rfl, ?_⟩) ?_ ?_
        rotate_left
        · intro w'
          go_simp
          with_reducible rfl
        rotate_left
        · simp only [Act.put, List.setIfInBounds_toArray, List.set_cons_zero, List.set_cons_succ, i64_w, i32_w]
          rfl
        refine pure_ (i := 4) (N := some 29) (v := ?_) (a' := ?_) #[true, true, true, false, true, false, false, false, false] rfl rfl (by kernel_rfl) (fun _ _ _ h => h) (Or.inl ⟨by rfl, ?_⟩) ?_ ?_
        rotate_left
        · intro w'
          go_simp
          with_reducible rfl
        rotate_left
        · simp only [Act.put, List.setIfInBounds_toArray, List.set_cons_zero, List.set_cons_succ, i64_w, i32_w]
          rfl
        refine pure_ (i := 5) (N := some 30) (v := ?_) (a' := ?_) #[true, true, true, false, true, true, false, false, false] rfl rfl (by kernel_rfl) (fun _ _ _ h => h) (Or.inl ⟨by rfl, ?_⟩) ?_ ?_
        rotate_left
        · intro w'
          go_simp
          with_reducible rfl
        rotate_left
        · simp only [Act.put, List.setIfInBounds_toArray, List.set_cons_zero, List.set_cons_succ, i64_w, i32_w]
          rfl
        refine pure_ (i := 6) (N := some 31) (v := ?_) (a' := ?_) #[true, true, true, false, true, true, true, false, false] rfl rfl (by kernel_rfl) (fun _ _ _ h => h) (Or.inl ⟨by rfl, ?_⟩) ?_ ?_
        rotate_left
        · intro w'
          go_simp
          with_reducible rfl
        rotate_left
        · simp only [Act.put, List.setIfInBounds_toArray, List.set_cons_zero, List.set_cons_succ, i64_w, i32_w]
          rfl
        refine take_ (i := 3) (N := some 28) (v := ?_) (a' := ?_) #[true, true, true, true, true, true, true, false, false] rfl rfl (by kernel_rfl) (fun _ _ _ h => h) (Or.inl ⟨by rfl, ?_⟩) hHeld ?_ ?_
        rotate_left
        · rintro w' ⟨s0, s1, s2, s3, s4, s5, s6, s7, s8, s9, s10, s11, s12, s13⟩
          go_simp
          with_reducible rfl
        rotate_left
        · simp only [Act.put, List.setIfInBounds_toArray, List.set_cons_zero, List.set_cons_succ, i64_w, i32_w]
          rfl
        refine take_ (i := 7) (N := some 32) (v := ?_) (a' := ?_) #[true, true, true, true, true, true, true, true, false] rfl rfl (by kernel_rfl) (fun _ _ _ h => h) (Or.inl ⟨by rfl, ?_⟩) hHeld ?_ ?_
        rotate_left
        · rintro w' ⟨s0, s1, s2, s3, s4, s5, s6, s7, s8, s9, s10, s11, s12, s13⟩
          go_simp
          with_reducible rfl
        rotate_left
        · simp only [Act.put, List.setIfInBounds_toArray, List.set_cons_zero, List.set_cons_succ, i64_w, i32_w]
          rfl
        refine pure_ (i := 8) (N := some 33) (v := ?_) (a' := ?_) #[true, true, true, true, true, true, true, true, true] rfl rfl (by kernel_rfl) (fun _ _ _ h => h) (Or.inl ⟨by rfl, ?_⟩) ?_ ?_
        rotate_left
        · intro w'
          go_simp
          with_reducible rfl
        rotate_left
        · simp only [Act.put, List.setIfInBounds_toArray, List.set_cons_zero, List.set_cons_succ, i64_w, i32_w]
          rfl
        refine done_ (by kernel_rfl) ?_

        go_wp2_with fail
        exact ⟨⟨k + 1, by omega, by go_num, grown_of_below HB.out.drew⟩, by simp [intOf]; omega⟩
end Go.Proofs.YtammpdifkpfafaaGreatDoor.LScriptDecodes
