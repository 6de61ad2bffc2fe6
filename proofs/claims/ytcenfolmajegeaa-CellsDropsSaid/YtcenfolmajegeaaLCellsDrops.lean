/- What is dropped has no value, and what is set behind that has its own, and all others stay: for every row of calls and every key the statement's call returns true. -/
import Derived.Test.YtcenfolmajegeaaCellMem
namespace Go.Proofs.Ytcenfolmajegeaa.LCellsDrops
open Go.RowKit Go.Maps CellMap Cells CellAlive Flat CellMem
set_option linter.unusedSimpArgs false
set_option linter.unusedVariables false

def Rel (w : World) (len B g bn bs : Nat) (i : Value) (wr : World) : Prop :=
  ∃ (k : Nat) (f : Int → Option Int) (c : Nat), k ≤ len ∧ i = .int .i64 k ∧ c ≤ k ∧ Below B w wr ∧ B ≤ wr.heap.size ∧ Box wr g 300 bn bs f c none_ 0

set_option maxRecDepth 100000 in
set_option maxHeartbeats 4000000 in
theorem walk (a0 : Option Addr) (len0 cap0 : Nat) (r0 : List (List Value)) (a1 : Int) (w : World) (w0 : IsRows [.int .u8, .int .u8, .int .i64] w a0 len0 cap0 r0) (w1 : (Lit.int .u8 a1).wf = true) :
    Calls Try.prog 5 #[.slice a0 len0 cap0, .int .u8 a1] w fun e w' => e = .returned (.bool true) ∧ Below w.heap.size w w' := by
  have hmax : len0 ≤ maxLen := Nat.le_trans w0.2.1 w0.2.2.1
  unfold maxLen at hmax
  by_cases hlen : 100 < len0
  · have hlenI : (100 : Int) < (len0 : Int) := by omega
    go_enter Try.func5, Try.ntmps5
    go_wp2_with fail
    refine (alive_any _).mono ?_
    rintro r v1 ⟨rfl, hb1⟩
    go_wp2_with fail
    refine (new_any 300 _ (by omega) (by omega)).mono ?_
    rintro e v2 ⟨g, bn, bs, rfl, hb, hB, hg, hn, hs⟩
    go_wp2_with fail
    go_ret
    exact ⟨rfl, hb1.trans (hB.mono hb1.size)⟩
  · have hlenI : ¬ (100 : Int) < (len0 : Int) := by omega
    go_enter Try.func5, Try.ntmps5
    go_wp2_with fail
    refine (alive_any _).mono ?_
    rintro r v1 ⟨rfl, hb1⟩
    go_wp2_with fail
    refine (new_any 300 _ (by omega) (by omega)).mono ?_
    rintro e v2 ⟨g, bn, bs, rfl, hb, hB, hg, hn, hs⟩
    go_wp2_with fail
    have B3 : Below w.heap.size w v2 := hb1.trans (hB.mono hb1.size)
    have hLo : w.heap.size ≤ g ∧ w.heap.size ≤ bn ∧ w.heap.size ≤ bs := by
      have := hb1.size
      omega
    clear hB
    go_loopw [34] (fun i wr => Rel w len0 w.heap.size g bn bs i wr) (fun i wr => len0 - (intOf i).toNat)
    case atStart => exact ⟨0, none_, 0, Nat.zero_le _, rfl, Nat.le_refl _, B3, B3.size, hb⟩
    case round =>
      obtain ⟨wo, h_wo⟩ : ∃ v : World, v = wr := ⟨_, rfl⟩; subst h_wo
      clear hb
      obtain ⟨k, f, c, hk, rfl, hc, hB, hsz, hb⟩ := hrel
      by_cases hkl : k < len0
      · obtain ⟨b, off, hab, hbw, hcells⟩ := rows_cells w0 (by omega)
        subst hab
        obtain ⟨t, key, v, ht, hkey, hv, d0, d1, d2⟩ := hcells k hkl
        rw [← hB.cell (p := ⟨b, _, none⟩) hbw] at d0 d1 d2
        clear hcells
        have hkI : (k : Int) < (len0 : Int) := by omega
        have hbr : b < wo.heap.size := Nat.lt_of_lt_of_le hbw hsz
        go_wp2_with fail
        generalize h4 : World.alloc wo _ = w4
        have hb4 : Box w4 g 300 bn bs f c none_ 0 := by rw [← h4]; exact hb.alloc _
        obtain ⟨B4, z4, k4⟩ := alloc_facts h4
        clear h4 k4
        refine (set_fits (k := key) (v := v) _ hb4 (by exact Go.WalkArith.wf_u8 (by omega)) hv (Or.inr (by omega))).mono ?_
        rintro e w5 ⟨rfl, hb5, hg5⟩
        clear d0 d1 d2
        go_wp2_with fail
        go_roundw
        case rel =>
          refine ⟨k + 1, CellMap.set f key v, setC f c key, by omega, by go_num, by unfold setC; split <;> omega, ?_, ?_, hb5⟩
          · exact (hB.trans (B4.mono hsz)).grown hg5 (Nat.le_trans hsz (Nat.le_of_lt z4)) (fun j hj => by cases hj; omega)
          · have := hg5.size
            omega
        case measure => simp [intOf]; omega
      · have hkI : ¬ (k : Int) < (len0 : Int) := by omega
        obtain ⟨key, rfl, hkey⟩ := u8_nat w1
        have HL := len_any _ hb
        have HG := get_any (k := key) _ hb w1
        have HD := drop_any (k := key) _ hb w1
        have hc1 : (c : Int) ≤ 100 := by omega
        have hpos : ∀ x, f (key : Int) = some x → 1 ≤ c := fun x hx => hb.own.pos hx
        have fin : ∀ (E H : Int) (k2 : Int), k2 ≠ (key : Int) → (Lit.int .u8 k2).wf = true → True := fun _ _ _ _ _ => trivial
        obtain ⟨k2, hk2, hw2, hne⟩ : ∃ k2 : Int, k2 = (if key = 255 then 0 else (key : Int) + 1) ∧ (Lit.int .u8 k2).wf = true ∧ k2 ≠ (key : Int) := by
          refine ⟨_, rfl, Go.WalkArith.wf_u8 (by split <;> omega), by split <;> omega⟩
        have hdk : drop f (key : Int) (key : Int) = none := by simp [drop]
        have hdc : dropC f c (key : Int) ≤ 100 ∧ ∀ x, f (key : Int) = some x → (dropC f c (key : Int) : Int) = c - 1 := by
          unfold dropC
          refine ⟨by split <;> omega, fun x hx => ?_⟩
          have := hpos x hx
          rw [hx]
          simp only [Option.isSome_some, if_true]
          omega
        clear hpos fin
        generalize hf' : drop f (key : Int) = f' at HD hdk
        generalize dropC f c (key : Int) = c' at HD hdc
        clear hf'
        obtain ⟨hc', hcs⟩ := hdc
        have hk1 : key = 255 ∨ key < 255 := by omega
        obtain ⟨had, hhad⟩ : ∃ had : Int, had = if (f (key : Int)).isSome then 0 else 7 := ⟨_, rfl⟩
        rw [← hhad] at HG HD
        have hh : (had = 0 ∧ (c' : Int) = c - 1) ∨ had = 7 := by
          cases hf : f (key : Int) with
          | none => right; rw [hhad, hf]; rfl
          | some x => left; exact ⟨by rw [hhad, hf]; rfl, hcs x hf⟩
        clear hhad hcs
        generalize (f (key : Int)).getD 0 = old at HG
        rcases hh with ⟨rfl, hcc⟩ | rfl
        · rcases hk1 with rfl | hk1
          · rw [if_pos rfl] at hk2
            subst hk2
            go_wp2_with (first | (go_at_call 12; refine HG.mono ?_; rintro e w' ⟨rfl, rfl⟩) | (go_at_call 16; refine HL.mono ?_; rintro e w' ⟨rfl, rfl⟩) | fail)
            refine HD.mono ?_
            rintro e w5 ⟨rfl, hb5, hg5⟩
            clear HG HL HD
            go_wp2_with fail
            refine (get_any (k := (255 : Nat)) _ hb5 w1).mono ?_
            rw [hdk]
            rintro e w' ⟨rfl, rfl⟩
            simp only [Option.isSome_none, Bool.false_eq_true, if_false, Option.getD_none]
            go_wp2_with fail
            have HG2 := get_any (k := 0) _ hb5 hw2
            have hk2e : CellMap.set f' ((255 : Nat)) 9 (0) = f' (0) := by simp only [CellMap.set, if_neg hne]
            have hke : CellMap.set f' ((255 : Nat)) 9 ((255 : Nat)) = some 9 := by simp [CellMap.set]
            obtain ⟨E2, hE2⟩ : ∃ E : Int, E = if (f' (0)).isSome then 0 else 7 := ⟨_, rfl⟩
            rw [← hE2] at HG2
            refine HG2.mono ?_
            rintro e w' ⟨rfl, rfl⟩
            clear HG2
            have HE2 := Lib.hid hE2
            have HK2E := Lib.hid hk2e
            have HKE := Lib.hid hke
            clear hE2 hk2e hke
            have HL2 := len_any _ hb5
            rw [hcc] at HL2
            go_wp2_with (go_at_call 16; refine HL2.mono ?_; rintro e w' ⟨rfl, rfl⟩)
            refine (set_fits (k := (255 : Nat)) (v := 9) _ hb5 w1 rfl (Or.inr (by omega))).mono ?_
            rintro e w6 ⟨rfl, hb6, hg6⟩
            have B5 : Below w.heap.size w w5 := hB.grown hg5 hsz (fun j hj => by cases hj; omega)
            have B6 : Below w.heap.size w w6 := B5.grown hg6 B5.size (fun j hj => by cases hj; omega)
            clear hg5 hg6 hB B5
            have HG3 := get_any (k := (255 : Nat)) _ hb6 w1
            rw [HKE.out] at HG3
            simp only [Option.isSome_some, if_true, Option.getD_some] at HG3
            have HG4 := get_any (k := 0) _ hb6 hw2
            rw [HK2E.out, ← HE2.out] at HG4
            clear hdk
            go_wp2_with fail
            refine HG3.mono ?_
            rintro e w' ⟨rfl, rfl⟩
            go_wp2_with fail
            refine HG4.mono ?_
            rintro e w' ⟨rfl, rfl⟩
            go_wp2_with fail
            go_ret
            exact ⟨by simp, B6⟩
          · rw [if_neg (by omega)] at hk2
            subst hk2
            go_wp2_with (first | (go_at_call 12; refine HG.mono ?_; rintro e w' ⟨rfl, rfl⟩) | (go_at_call 16; refine HL.mono ?_; rintro e w' ⟨rfl, rfl⟩) | fail)
            refine HD.mono ?_
            rintro e w5 ⟨rfl, hb5, hg5⟩
            clear HG HL HD
            go_wp2_with fail
            refine (get_any (k := key) _ hb5 w1).mono ?_
            rw [hdk]
            rintro e w' ⟨rfl, rfl⟩
            simp only [Option.isSome_none, Bool.false_eq_true, if_false, Option.getD_none]
            go_wp2_with fail
            have HG2 := get_any (k := (key : Int) + 1) _ hb5 hw2
            have hk2e : CellMap.set f' (key) 9 ((key : Int) + 1) = f' ((key : Int) + 1) := by simp only [CellMap.set, if_neg hne]
            have hke : CellMap.set f' (key) 9 (key) = some 9 := by simp [CellMap.set]
            obtain ⟨E2, hE2⟩ : ∃ E : Int, E = if (f' ((key : Int) + 1)).isSome then 0 else 7 := ⟨_, rfl⟩
            rw [← hE2] at HG2
            refine HG2.mono ?_
            rintro e w' ⟨rfl, rfl⟩
            clear HG2
            have HE2 := Lib.hid hE2
            have HK2E := Lib.hid hk2e
            have HKE := Lib.hid hke
            clear hE2 hk2e hke
            have HL2 := len_any _ hb5
            rw [hcc] at HL2
            go_wp2_with (go_at_call 16; refine HL2.mono ?_; rintro e w' ⟨rfl, rfl⟩)
            refine (set_fits (k := key) (v := 9) _ hb5 w1 rfl (Or.inr (by omega))).mono ?_
            rintro e w6 ⟨rfl, hb6, hg6⟩
            have B5 : Below w.heap.size w w5 := hB.grown hg5 hsz (fun j hj => by cases hj; omega)
            have B6 : Below w.heap.size w w6 := B5.grown hg6 B5.size (fun j hj => by cases hj; omega)
            clear hg5 hg6 hB B5
            have HG3 := get_any (k := key) _ hb6 w1
            rw [HKE.out] at HG3
            simp only [Option.isSome_some, if_true, Option.getD_some] at HG3
            have HG4 := get_any (k := (key : Int) + 1) _ hb6 hw2
            rw [HK2E.out, ← HE2.out] at HG4
            clear hdk
            go_wp2_with fail
            refine HG3.mono ?_
            rintro e w' ⟨rfl, rfl⟩
            go_wp2_with fail
            refine HG4.mono ?_
            rintro e w' ⟨rfl, rfl⟩
            go_wp2_with fail
            go_ret
            exact ⟨by simp, B6⟩
        · rcases hk1 with rfl | hk1
          · rw [if_pos rfl] at hk2
            subst hk2
            go_wp2_with (first | (go_at_call 12; refine HG.mono ?_; rintro e w' ⟨rfl, rfl⟩) | (go_at_call 16; refine HL.mono ?_; rintro e w' ⟨rfl, rfl⟩) | fail)
            refine HD.mono ?_
            rintro e w5 ⟨rfl, hb5, hg5⟩
            clear HG HL HD
            go_wp2_with fail
            refine (get_any (k := (255 : Nat)) _ hb5 w1).mono ?_
            rw [hdk]
            rintro e w' ⟨rfl, rfl⟩
            simp only [Option.isSome_none, Bool.false_eq_true, if_false, Option.getD_none]
            go_wp2_with fail
            have HG2 := get_any (k := 0) _ hb5 hw2
            have hk2e : CellMap.set f' ((255 : Nat)) 9 (0) = f' (0) := by simp only [CellMap.set, if_neg hne]
            have hke : CellMap.set f' ((255 : Nat)) 9 ((255 : Nat)) = some 9 := by simp [CellMap.set]
            obtain ⟨E2, hE2⟩ : ∃ E : Int, E = if (f' (0)).isSome then 0 else 7 := ⟨_, rfl⟩
            rw [← hE2] at HG2
            refine HG2.mono ?_
            rintro e w' ⟨rfl, rfl⟩
            clear HG2
            have HE2 := Lib.hid hE2
            have HK2E := Lib.hid hk2e
            have HKE := Lib.hid hke
            clear hE2 hk2e hke
            go_wp2_with fail
            refine (set_fits (k := (255 : Nat)) (v := 9) _ hb5 w1 rfl (Or.inr (by omega))).mono ?_
            rintro e w6 ⟨rfl, hb6, hg6⟩
            have B5 : Below w.heap.size w w5 := hB.grown hg5 hsz (fun j hj => by cases hj; omega)
            have B6 : Below w.heap.size w w6 := B5.grown hg6 B5.size (fun j hj => by cases hj; omega)
            clear hg5 hg6 hB B5
            have HG3 := get_any (k := (255 : Nat)) _ hb6 w1
            rw [HKE.out] at HG3
            simp only [Option.isSome_some, if_true, Option.getD_some] at HG3
            have HG4 := get_any (k := 0) _ hb6 hw2
            rw [HK2E.out, ← HE2.out] at HG4
            clear hdk
            go_wp2_with fail
            refine HG3.mono ?_
            rintro e w' ⟨rfl, rfl⟩
            go_wp2_with fail
            refine HG4.mono ?_
            rintro e w' ⟨rfl, rfl⟩
            go_wp2_with fail
            go_ret
            exact ⟨by simp, B6⟩
          · rw [if_neg (by omega)] at hk2
            subst hk2
            go_wp2_with (first | (go_at_call 12; refine HG.mono ?_; rintro e w' ⟨rfl, rfl⟩) | (go_at_call 16; refine HL.mono ?_; rintro e w' ⟨rfl, rfl⟩) | fail)
            refine HD.mono ?_
            rintro e w5 ⟨rfl, hb5, hg5⟩
            clear HG HL HD
            go_wp2_with fail
            refine (get_any (k := key) _ hb5 w1).mono ?_
            rw [hdk]
            rintro e w' ⟨rfl, rfl⟩
            simp only [Option.isSome_none, Bool.false_eq_true, if_false, Option.getD_none]
            go_wp2_with fail
            have HG2 := get_any (k := (key : Int) + 1) _ hb5 hw2
            have hk2e : CellMap.set f' (key) 9 ((key : Int) + 1) = f' ((key : Int) + 1) := by simp only [CellMap.set, if_neg hne]
            have hke : CellMap.set f' (key) 9 (key) = some 9 := by simp [CellMap.set]
            obtain ⟨E2, hE2⟩ : ∃ E : Int, E = if (f' ((key : Int) + 1)).isSome then 0 else 7 := ⟨_, rfl⟩
            rw [← hE2] at HG2
            refine HG2.mono ?_
            rintro e w' ⟨rfl, rfl⟩
            clear HG2
            have HE2 := Lib.hid hE2
            have HK2E := Lib.hid hk2e
            have HKE := Lib.hid hke
            clear hE2 hk2e hke
            go_wp2_with fail
            refine (set_fits (k := key) (v := 9) _ hb5 w1 rfl (Or.inr (by omega))).mono ?_
            rintro e w6 ⟨rfl, hb6, hg6⟩
            have B5 : Below w.heap.size w w5 := hB.grown hg5 hsz (fun j hj => by cases hj; omega)
            have B6 : Below w.heap.size w w6 := B5.grown hg6 B5.size (fun j hj => by cases hj; omega)
            clear hg5 hg6 hB B5
            have HG3 := get_any (k := key) _ hb6 w1
            rw [HKE.out] at HG3
            simp only [Option.isSome_some, if_true, Option.getD_some] at HG3
            have HG4 := get_any (k := (key : Int) + 1) _ hb6 hw2
            rw [HK2E.out, ← HE2.out] at HG4
            clear hdk
            go_wp2_with fail
            refine HG3.mono ?_
            rintro e w' ⟨rfl, rfl⟩
            go_wp2_with fail
            refine HG4.mono ?_
            rintro e w' ⟨rfl, rfl⟩
            go_wp2_with fail
            go_ret
            exact ⟨by simp, B6⟩
end Go.Proofs.Ytcenfolmajegeaa.LCellsDrops
