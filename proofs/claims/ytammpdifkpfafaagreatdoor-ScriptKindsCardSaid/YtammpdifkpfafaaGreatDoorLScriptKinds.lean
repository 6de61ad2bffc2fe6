/- ScriptKinds: each step that bytes say is of a kind, and has numbers that a byte can have. -/
import Derived.Test.YtammpdifkpfafaaGreatDoorScriptAlive
namespace Go.Proofs.YtammpdifkpfafaaGreatDoor.LScriptKinds
open Go.RowKit Flat Go.Proofs.YtammpdifkpfafaaGreatDoorW.PrintLast ByteMem ScriptSpec News
set_option linter.unusedSimpArgs false
set_option linter.unusedVariables false

set_option maxRecDepth 100000 in
set_option maxHeartbeats 4000000 in
theorem walk (a0 : Option Addr) (len0 cap0 : Nat) (r0 : List (List Value)) (w : World) (w0 : IsRows [.int .u8] w a0 len0 cap0 r0) :
    Calls Tryz.prog 6 #[.slice a0 len0 cap0] w fun e w' => e = .returned (.bool true) ∧ Below w.heap.size w w' := by
  obtain ⟨l, rfl, hlc, hcm, hib⟩ := rows_bytes w0
  have hcm' := hcm
  unfold maxLen at hcm'
  clear w0
  by_cases h2000 : 2000 < l.length
  · have hI : (2000 : Int) < (l.length : Int) := by omega
    clear hib
    go_enter Tryz.func6, Tryz.ntmps6
    go_wp2_with fail
    refine (alive_any _).mono ?_
    rintro e v1 ⟨rfl, hb1⟩
    go_wp2_with fail
    go_ret
    exact ⟨rfl, hb1⟩
  · have hI : ¬ (2000 : Int) < (l.length : Int) := by omega
    have HIB := Lib.hid hib
    clear hib
    have HF := Lib.hid (dec_fine 0 l)
    have hlen := dec_length 0 l
    have hroom := dec_room 0 l (by omega)
    go_enter Tryz.func6, Tryz.ntmps6
    go_wp2_with fail
    refine (alive_any _).mono ?_
    rintro e v1 ⟨rfl, hb1⟩
    have HB1 := Lib.hid hb1
    clear hb1
    go_wp2_with fail
    refine (Script.decode_any v1 a0 l cap0 ((HIB.out.below HB1.out).mono HB1.out.size) hlc hcm).mono ?_
    rintro e v2 ⟨va, rfl, hoa, hb2⟩
    have HB2 := Lib.hid (HB1.out.trans (hb2.mono HB1.out.size))
    obtain ⟨aa, ca, rfl⟩ := Script.owns_slice hoa
    have HOA := Lib.hid hoa
    clear hb2 HB1 hoa HIB
    generalize dec 0 l = st at *
    go_wp2_with fail
    go_loopw [15] (fun i wr => ∃ k : Nat, k ≤ st.length ∧ i = .int .i64 (k : Int) ∧ v2.grownBy wr none) (fun i _ => st.length - (intOf i).toNat)
    case atStart => exact ⟨0, by omega, rfl, ⟨rfl, rfl, rfl, Nat.le_refl _, fun _ _ _ => rfl⟩⟩
    case round =>
      obtain ⟨wo, h_wo⟩ : ∃ v : World, v = wr := ⟨_, rfl⟩; subst h_wo
      obtain ⟨k, hk, rfl, hG⟩ := hrel
      have hb := below_grown hG
      have HB := Lib.hid hb
      clear hG hb
      by_cases hkn : k = st.length
      · subst hkn
        have hI5 : (st.length : Int) ≤ (l.length : Int) := by omega
        go_wp2_with fail
        go_ret
        exact ⟨rfl, HB2.out.trans (HB.out.mono HB2.out.size)⟩
      · have hkI : (k : Int) < (st.length : Int) := by omega
        have hk0 : (0 : Int) ≤ (k : Int) := by omega
        have hkl : k < st.length := by omega
        obtain ⟨ga, ca', hga, _, _, _, hgal, hca⟩ := Script.owns_read HOA.out (by omega)
        obtain ⟨rfl, rfl⟩ : aa = some ⟨ga, 0, none⟩ ∧ ca = ca' := by simpa using hga
        obtain ⟨x0, x1, x2, x3, x4, x5, x6⟩ := hca k hkl
        obtain ⟨⟨f1, f2, f3, f4, f5, f6, f7, f8, _⟩, f9, f10⟩ := HF.out (st[k]) (List.getElem_mem hkl)
        generalize st[k] = s at *
        replace x0 := (HB.out.cell (p := ⟨ga, k * 7, none⟩) hgal).trans x0
        replace x1 := (HB.out.cell (p := ⟨ga, k * 7 + 1, none⟩) hgal).trans x1
        replace x2 := (HB.out.cell (p := ⟨ga, k * 7 + 2, none⟩) hgal).trans x2
        replace x3 := (HB.out.cell (p := ⟨ga, k * 7 + 3, none⟩) hgal).trans x3
        replace x4 := (HB.out.cell (p := ⟨ga, k * 7 + 4, none⟩) hgal).trans x4
        replace x5 := (HB.out.cell (p := ⟨ga, k * 7 + 5, none⟩) hgal).trans x5
        replace x6 := (HB.out.cell (p := ⟨ga, k * 7 + 6, none⟩) hgal).trans x6
        have b1 : ¬ s.what < 1 := by omega
        have b2 : ¬ (14 : Int) < s.what := by omega
        have b3 : ¬ s.tx < 0 := by omega
        have b4 : ¬ (255 : Int) < s.tx := by omega
        have b5 : ¬ s.kind < 0 := by omega
        have b6 : ¬ (255 : Int) < s.kind := by omega
        have b7 : ¬ s.n < -128 := by omega
        have b8 : ¬ (255 : Int) < s.n := by omega
        have HF9 := Lib.hid f9
        have HF10 := Lib.hid f10
        clear hca hga HOA HF f1 f2 f3 f4 f5 f6 f7 f8 f9 f10
        by_cases h14 : s.what = 14
        · have hs := HF9.out h14
          subst hs
          have hne := fun W => step_same ⟨14, 0, 0, 0, 0, 0, 0⟩ W
          dsimp only at *
          go_wp2_with fail
          exact ⟨⟨k + 1, by omega, by go_num, grown_of_below (HB.out.alloc HB.out.size _)⟩, by simp [intOf]; omega⟩
        · by_cases h11 : s.what = 11
          · have hs := HF10.out h11
            obtain ⟨q1, q2, q3, q4, q5, q6, n⟩ := s
            simp only [St.mk.injEq] at hs
            obtain ⟨rfl, rfl, rfl, rfl, rfl, rfl, _⟩ := hs
            have hne := fun W => step_same ⟨11, 0, 0, 0, 0, 0, n⟩ W
            dsimp only at *
            go_wp2_with fail
            exact ⟨⟨k + 1, by omega, by go_num, grown_of_below (HB.out.alloc HB.out.size _)⟩, by simp [intOf]; omega⟩
          · obtain ⟨q1, q2, q3, q4, q5, q6, n⟩ := s
            dsimp only at *
            go_wp2_with fail
            exact ⟨⟨k + 1, by omega, by go_num, grown_of_below (HB.out.alloc HB.out.size _)⟩, by simp [intOf]; omega⟩
end Go.Proofs.YtammpdifkpfafaaGreatDoor.LScriptKinds
