/- What the world's kinds answer. -/
import Derived.Test.YtammpdifkpfafaaGreatDoorKinds
namespace Go.Proofs.YtammpdifkpfafaaGreatDoor.News
open Go.RowKit Flat Go.Proofs.YtammpdifkpfafaaGreatDoorW.PrintLast
set_option linter.unusedSimpArgs false
set_option linter.unusedVariables false
set_option maxRecDepth 100000

/-- The code of kind j. -/
def kdF : Nat → Nat
  | 0 => 47
  | 1 => 48
  | 2 => 49
  | 3 => 50
  | 4 => 51
  | 5 => 52
  | 6 => 53
  | 7 => 54
  | 8 => 55
  | 9 => 56
  | 10 => 57
  | 11 => 58
  | 12 => 59
  | 13 => 60
  | _ => 0
/-- The kinds in a row at block g: kind 1 is its code, the others lie behind boxes. -/
def KindsPost (w : World) (r : Ending) (w' : World) : Prop :=
  ∃ (g : Nat) (bx : Nat → Nat), r = .returned (.slice (some ⟨g, 0, none⟩) 14 14) ∧ g < w'.heap.size ∧ w'.cell? ⟨g, 1, none⟩ = some (.func (.func (kdF 1)) #[] #[]) ∧
    (∀ j, j < 14 → j ≠ 1 → w'.cell? ⟨g, j, none⟩ = some (.func (.func 66) #[] #[.pointer (some ⟨bx j, 0, none⟩)]) ∧ bx j < w'.heap.size ∧ w'.cell? ⟨bx j, 0, none⟩ = some (.func (.func (kdF j)) #[] #[])) ∧ Below w.heap.size w w'
set_option maxHeartbeats 4000000 in
theorem kinds_any (w : World) : Calls Tryz.prog 29 #[] w (KindsPost w) := by
  have HQ := Lib.hid (fun k W => quiet_any k W)
  go_enter Tryz.func29, Tryz.ntmps29
  go_wp2_with fail
  refine (HQ.out _ _).mono ?_
  rintro r v0 ⟨b0, rfl, hz0, hl0, hc0, hB0⟩
  have HBW := Lib.hid hB0
  clear hB0 hz0
  go_wp2_with fail
  refine (HQ.out _ _).mono ?_
  rintro r v2 ⟨b2, rfl, hz2, hl2, hc2, hB2⟩
  have hc0 := stay hB2 hl0 hc0
  have hl0 := Nat.lt_of_lt_of_le hl0 hB2.size
  have HBW := Lib.hid (HBW.out.trans (hB2.mono HBW.out.size))
  clear hB2 hz2
  go_wp2_with fail
  refine (HQ.out _ _).mono ?_
  rintro r v3 ⟨b3, rfl, hz3, hl3, hc3, hB3⟩
  have hc0 := stay hB3 hl0 hc0
  have hl0 := Nat.lt_of_lt_of_le hl0 hB3.size
  have hc2 := stay hB3 hl2 hc2
  have hl2 := Nat.lt_of_lt_of_le hl2 hB3.size
  have HBW := Lib.hid (HBW.out.trans (hB3.mono HBW.out.size))
  clear hB3 hz3
  go_wp2_with fail
  refine (HQ.out _ _).mono ?_
  rintro r v4 ⟨b4, rfl, hz4, hl4, hc4, hB4⟩
  have hc0 := stay hB4 hl0 hc0
  have hl0 := Nat.lt_of_lt_of_le hl0 hB4.size
  have hc2 := stay hB4 hl2 hc2
  have hl2 := Nat.lt_of_lt_of_le hl2 hB4.size
  have hc3 := stay hB4 hl3 hc3
  have hl3 := Nat.lt_of_lt_of_le hl3 hB4.size
  have HBW := Lib.hid (HBW.out.trans (hB4.mono HBW.out.size))
  clear hB4 hz4
  go_wp2_with fail
  refine (HQ.out _ _).mono ?_
  rintro r v5 ⟨b5, rfl, hz5, hl5, hc5, hB5⟩
  have hc0 := stay hB5 hl0 hc0
  have hl0 := Nat.lt_of_lt_of_le hl0 hB5.size
  have hc2 := stay hB5 hl2 hc2
  have hl2 := Nat.lt_of_lt_of_le hl2 hB5.size
  have hc3 := stay hB5 hl3 hc3
  have hl3 := Nat.lt_of_lt_of_le hl3 hB5.size
  have hc4 := stay hB5 hl4 hc4
  have hl4 := Nat.lt_of_lt_of_le hl4 hB5.size
  have HBW := Lib.hid (HBW.out.trans (hB5.mono HBW.out.size))
  clear hB5 hz5
  go_wp2_with fail
  refine (HQ.out _ _).mono ?_
  rintro r v6 ⟨b6, rfl, hz6, hl6, hc6, hB6⟩
  have hc0 := stay hB6 hl0 hc0
  have hl0 := Nat.lt_of_lt_of_le hl0 hB6.size
  have hc2 := stay hB6 hl2 hc2
  have hl2 := Nat.lt_of_lt_of_le hl2 hB6.size
  have hc3 := stay hB6 hl3 hc3
  have hl3 := Nat.lt_of_lt_of_le hl3 hB6.size
  have hc4 := stay hB6 hl4 hc4
  have hl4 := Nat.lt_of_lt_of_le hl4 hB6.size
  have hc5 := stay hB6 hl5 hc5
  have hl5 := Nat.lt_of_lt_of_le hl5 hB6.size
  have HBW := Lib.hid (HBW.out.trans (hB6.mono HBW.out.size))
  clear hB6 hz6
  go_wp2_with fail
  refine (HQ.out _ _).mono ?_
  rintro r v7 ⟨b7, rfl, hz7, hl7, hc7, hB7⟩
  have hc0 := stay hB7 hl0 hc0
  have hl0 := Nat.lt_of_lt_of_le hl0 hB7.size
  have hc2 := stay hB7 hl2 hc2
  have hl2 := Nat.lt_of_lt_of_le hl2 hB7.size
  have hc3 := stay hB7 hl3 hc3
  have hl3 := Nat.lt_of_lt_of_le hl3 hB7.size
  have hc4 := stay hB7 hl4 hc4
  have hl4 := Nat.lt_of_lt_of_le hl4 hB7.size
  have hc5 := stay hB7 hl5 hc5
  have hl5 := Nat.lt_of_lt_of_le hl5 hB7.size
  have hc6 := stay hB7 hl6 hc6
  have hl6 := Nat.lt_of_lt_of_le hl6 hB7.size
  have HBW := Lib.hid (HBW.out.trans (hB7.mono HBW.out.size))
  clear hB7 hz7
  go_wp2_with fail
  refine (HQ.out _ _).mono ?_
  rintro r v8 ⟨b8, rfl, hz8, hl8, hc8, hB8⟩
  have hc0 := stay hB8 hl0 hc0
  have hl0 := Nat.lt_of_lt_of_le hl0 hB8.size
  have hc2 := stay hB8 hl2 hc2
  have hl2 := Nat.lt_of_lt_of_le hl2 hB8.size
  have hc3 := stay hB8 hl3 hc3
  have hl3 := Nat.lt_of_lt_of_le hl3 hB8.size
  have hc4 := stay hB8 hl4 hc4
  have hl4 := Nat.lt_of_lt_of_le hl4 hB8.size
  have hc5 := stay hB8 hl5 hc5
  have hl5 := Nat.lt_of_lt_of_le hl5 hB8.size
  have hc6 := stay hB8 hl6 hc6
  have hl6 := Nat.lt_of_lt_of_le hl6 hB8.size
  have hc7 := stay hB8 hl7 hc7
  have hl7 := Nat.lt_of_lt_of_le hl7 hB8.size
  have HBW := Lib.hid (HBW.out.trans (hB8.mono HBW.out.size))
  clear hB8 hz8
  go_wp2_with fail
  refine (HQ.out _ _).mono ?_
  rintro r v9 ⟨b9, rfl, hz9, hl9, hc9, hB9⟩
  have hc0 := stay hB9 hl0 hc0
  have hl0 := Nat.lt_of_lt_of_le hl0 hB9.size
  have hc2 := stay hB9 hl2 hc2
  have hl2 := Nat.lt_of_lt_of_le hl2 hB9.size
  have hc3 := stay hB9 hl3 hc3
  have hl3 := Nat.lt_of_lt_of_le hl3 hB9.size
  have hc4 := stay hB9 hl4 hc4
  have hl4 := Nat.lt_of_lt_of_le hl4 hB9.size
  have hc5 := stay hB9 hl5 hc5
  have hl5 := Nat.lt_of_lt_of_le hl5 hB9.size
  have hc6 := stay hB9 hl6 hc6
  have hl6 := Nat.lt_of_lt_of_le hl6 hB9.size
  have hc7 := stay hB9 hl7 hc7
  have hl7 := Nat.lt_of_lt_of_le hl7 hB9.size
  have hc8 := stay hB9 hl8 hc8
  have hl8 := Nat.lt_of_lt_of_le hl8 hB9.size
  have HBW := Lib.hid (HBW.out.trans (hB9.mono HBW.out.size))
  clear hB9 hz9
  go_wp2_with fail
  refine (HQ.out _ _).mono ?_
  rintro r v10 ⟨b10, rfl, hz10, hl10, hc10, hB10⟩
  have hc0 := stay hB10 hl0 hc0
  have hl0 := Nat.lt_of_lt_of_le hl0 hB10.size
  have hc2 := stay hB10 hl2 hc2
  have hl2 := Nat.lt_of_lt_of_le hl2 hB10.size
  have hc3 := stay hB10 hl3 hc3
  have hl3 := Nat.lt_of_lt_of_le hl3 hB10.size
  have hc4 := stay hB10 hl4 hc4
  have hl4 := Nat.lt_of_lt_of_le hl4 hB10.size
  have hc5 := stay hB10 hl5 hc5
  have hl5 := Nat.lt_of_lt_of_le hl5 hB10.size
  have hc6 := stay hB10 hl6 hc6
  have hl6 := Nat.lt_of_lt_of_le hl6 hB10.size
  have hc7 := stay hB10 hl7 hc7
  have hl7 := Nat.lt_of_lt_of_le hl7 hB10.size
  have hc8 := stay hB10 hl8 hc8
  have hl8 := Nat.lt_of_lt_of_le hl8 hB10.size
  have hc9 := stay hB10 hl9 hc9
  have hl9 := Nat.lt_of_lt_of_le hl9 hB10.size
  have HBW := Lib.hid (HBW.out.trans (hB10.mono HBW.out.size))
  clear hB10 hz10
  go_wp2_with fail
  refine (HQ.out _ _).mono ?_
  rintro r v11 ⟨b11, rfl, hz11, hl11, hc11, hB11⟩
  have hc0 := stay hB11 hl0 hc0
  have hl0 := Nat.lt_of_lt_of_le hl0 hB11.size
  have hc2 := stay hB11 hl2 hc2
  have hl2 := Nat.lt_of_lt_of_le hl2 hB11.size
  have hc3 := stay hB11 hl3 hc3
  have hl3 := Nat.lt_of_lt_of_le hl3 hB11.size
  have hc4 := stay hB11 hl4 hc4
  have hl4 := Nat.lt_of_lt_of_le hl4 hB11.size
  have hc5 := stay hB11 hl5 hc5
  have hl5 := Nat.lt_of_lt_of_le hl5 hB11.size
  have hc6 := stay hB11 hl6 hc6
  have hl6 := Nat.lt_of_lt_of_le hl6 hB11.size
  have hc7 := stay hB11 hl7 hc7
  have hl7 := Nat.lt_of_lt_of_le hl7 hB11.size
  have hc8 := stay hB11 hl8 hc8
  have hl8 := Nat.lt_of_lt_of_le hl8 hB11.size
  have hc9 := stay hB11 hl9 hc9
  have hl9 := Nat.lt_of_lt_of_le hl9 hB11.size
  have hc10 := stay hB11 hl10 hc10
  have hl10 := Nat.lt_of_lt_of_le hl10 hB11.size
  have HBW := Lib.hid (HBW.out.trans (hB11.mono HBW.out.size))
  clear hB11 hz11
  go_wp2_with fail
  refine (HQ.out _ _).mono ?_
  rintro r v12 ⟨b12, rfl, hz12, hl12, hc12, hB12⟩
  have hc0 := stay hB12 hl0 hc0
  have hl0 := Nat.lt_of_lt_of_le hl0 hB12.size
  have hc2 := stay hB12 hl2 hc2
  have hl2 := Nat.lt_of_lt_of_le hl2 hB12.size
  have hc3 := stay hB12 hl3 hc3
  have hl3 := Nat.lt_of_lt_of_le hl3 hB12.size
  have hc4 := stay hB12 hl4 hc4
  have hl4 := Nat.lt_of_lt_of_le hl4 hB12.size
  have hc5 := stay hB12 hl5 hc5
  have hl5 := Nat.lt_of_lt_of_le hl5 hB12.size
  have hc6 := stay hB12 hl6 hc6
  have hl6 := Nat.lt_of_lt_of_le hl6 hB12.size
  have hc7 := stay hB12 hl7 hc7
  have hl7 := Nat.lt_of_lt_of_le hl7 hB12.size
  have hc8 := stay hB12 hl8 hc8
  have hl8 := Nat.lt_of_lt_of_le hl8 hB12.size
  have hc9 := stay hB12 hl9 hc9
  have hl9 := Nat.lt_of_lt_of_le hl9 hB12.size
  have hc10 := stay hB12 hl10 hc10
  have hl10 := Nat.lt_of_lt_of_le hl10 hB12.size
  have hc11 := stay hB12 hl11 hc11
  have hl11 := Nat.lt_of_lt_of_le hl11 hB12.size
  have HBW := Lib.hid (HBW.out.trans (hB12.mono HBW.out.size))
  clear hB12 hz12
  go_wp2_with fail
  refine (HQ.out _ _).mono ?_
  rintro r v13 ⟨b13, rfl, hz13, hl13, hc13, hB13⟩
  have hc0 := stay hB13 hl0 hc0
  have hl0 := Nat.lt_of_lt_of_le hl0 hB13.size
  have hc2 := stay hB13 hl2 hc2
  have hl2 := Nat.lt_of_lt_of_le hl2 hB13.size
  have hc3 := stay hB13 hl3 hc3
  have hl3 := Nat.lt_of_lt_of_le hl3 hB13.size
  have hc4 := stay hB13 hl4 hc4
  have hl4 := Nat.lt_of_lt_of_le hl4 hB13.size
  have hc5 := stay hB13 hl5 hc5
  have hl5 := Nat.lt_of_lt_of_le hl5 hB13.size
  have hc6 := stay hB13 hl6 hc6
  have hl6 := Nat.lt_of_lt_of_le hl6 hB13.size
  have hc7 := stay hB13 hl7 hc7
  have hl7 := Nat.lt_of_lt_of_le hl7 hB13.size
  have hc8 := stay hB13 hl8 hc8
  have hl8 := Nat.lt_of_lt_of_le hl8 hB13.size
  have hc9 := stay hB13 hl9 hc9
  have hl9 := Nat.lt_of_lt_of_le hl9 hB13.size
  have hc10 := stay hB13 hl10 hc10
  have hl10 := Nat.lt_of_lt_of_le hl10 hB13.size
  have hc11 := stay hB13 hl11 hc11
  have hl11 := Nat.lt_of_lt_of_le hl11 hB13.size
  have hc12 := stay hB13 hl12 hc12
  have hl12 := Nat.lt_of_lt_of_le hl12 hB13.size
  have HBW := Lib.hid (HBW.out.trans (hB13.mono HBW.out.size))
  clear hB13 hz13
  go_wp2_with fail
  go_ret
  have hbl := HBW.out.size
  generalize hW : World.alloc v13 _ = W
  obtain ⟨hbN, hzN, hcN⟩ := alloc_facts hW
  refine ⟨v13.heap.size, fun j => [b0, 0, b2, b3, b4, b5, b6, b7, b8, b9, b10, b11, b12, b13].getD j 0, rfl, hzN, hcN 1, fun j hj hne => ?_, HBW.out.trans (hbN.mono hbl)⟩
  rcases (by omega : j = 0 ∨ j = 2 ∨ j = 3 ∨ j = 4 ∨ j = 5 ∨ j = 6 ∨ j = 7 ∨ j = 8 ∨ j = 9 ∨ j = 10 ∨ j = 11 ∨ j = 12 ∨ j = 13) with rfl | rfl | rfl | rfl | rfl | rfl | rfl | rfl | rfl | rfl | rfl | rfl | rfl
  · exact ⟨hcN 0, Nat.lt_of_lt_of_le hl0 hbN.size, stay hbN hl0 hc0⟩
  · exact ⟨hcN 2, Nat.lt_of_lt_of_le hl2 hbN.size, stay hbN hl2 hc2⟩
  · exact ⟨hcN 3, Nat.lt_of_lt_of_le hl3 hbN.size, stay hbN hl3 hc3⟩
  · exact ⟨hcN 4, Nat.lt_of_lt_of_le hl4 hbN.size, stay hbN hl4 hc4⟩
  · exact ⟨hcN 5, Nat.lt_of_lt_of_le hl5 hbN.size, stay hbN hl5 hc5⟩
  · exact ⟨hcN 6, Nat.lt_of_lt_of_le hl6 hbN.size, stay hbN hl6 hc6⟩
  · exact ⟨hcN 7, Nat.lt_of_lt_of_le hl7 hbN.size, stay hbN hl7 hc7⟩
  · exact ⟨hcN 8, Nat.lt_of_lt_of_le hl8 hbN.size, stay hbN hl8 hc8⟩
  · exact ⟨hcN 9, Nat.lt_of_lt_of_le hl9 hbN.size, stay hbN hl9 hc9⟩
  · exact ⟨hcN 10, Nat.lt_of_lt_of_le hl10 hbN.size, stay hbN hl10 hc10⟩
  · exact ⟨hcN 11, Nat.lt_of_lt_of_le hl11 hbN.size, stay hbN hl11 hc11⟩
  · exact ⟨hcN 12, Nat.lt_of_lt_of_le hl12 hbN.size, stay hbN hl12 hc12⟩
  · exact ⟨hcN 13, Nat.lt_of_lt_of_le hl13 hbN.size, stay hbN hl13 hc13⟩
end Go.Proofs.YtammpdifkpfafaaGreatDoor.News
