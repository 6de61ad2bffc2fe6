/- The answers that the document fixes of an agent: 'alive' says true. -/
import Derived.Test.YtajnaiofagppeaaDoorShipLaw
import Derived.Test.YtajnaiofagppeaaDoorNoteSame
import Derived.Test.YtajnaiofagppeaaDoorAgentSmall
namespace Go.Proofs.YtajnaiofagppeaaDoor.AgentAlive
open Go Go.RowKit CodeSpec AgentSpec NoteSpec LeaseSpec HandSpec Flat Ballot Collect Pack Held Ship Speak AgentSmall Go.Proofs.YtajnaiofagppeaaDoorW.PrintLast
set_option linter.unusedSimpArgs false
set_option linter.unusedVariables false
set_option maxRecDepth 100000
def x0 : S := ⟨0, 4, 1, 0, ⟨#[]⟩, false⟩
theorem x0_right : rightS x0 = true := by simp [x0, rightS, none_, LeaseSpec.rightB, LeaseSpec.epochB, ByteArray.toList_eq, ByteArray.size]
theorem k1 : shipA ⟨0, 4, 1, 0, ⟨#[]⟩, false⟩ ⟨9, 2⟩ = (⟨0, 4, 1, 0, ⟨#[0, 9, 2]⟩, false⟩, 0) := ship_mk (x := x0) (l := []) (b := ⟨9, 2⟩) x0_right rfl rfl rfl
theorem k2 : shipA ⟨0, 4, 1, 0, ⟨#[0, 9, 2]⟩, false⟩ ⟨7, 1⟩ = (⟨0, 4, 1, 0, ⟨#[0, 7, 1, 0, 9, 2]⟩, false⟩, 0) := ship_mk (x := x0) (l := [⟨9, 2⟩]) (b := ⟨7, 1⟩) x0_right rfl rfl rfl
theorem k3 : shipA ⟨0, 4, 1, 0, ⟨#[0, 7, 1, 0, 9, 2]⟩, false⟩ ⟨7, 2⟩ = (⟨0, 4, 1, 0, ⟨#[0, 7, 1, 0, 9, 2]⟩, false⟩, 8) := ship_mk (x := x0) (l := [⟨7, 1⟩, ⟨9, 2⟩]) (b := ⟨7, 2⟩) x0_right rfl rfl rfl
theorem k4 : speakA ⟨0, 4, 1, 0, ⟨#[0, 7, 1, 0, 9, 2]⟩, false⟩ 3 = ([⟨2, 3, 7, 4, 1, 0, 0, 0, 0, ⟨#[]⟩⟩, ⟨2, 3, 9, 4, 2, 0, 0, 0, 0, ⟨#[]⟩⟩], 0) := by
  have hh : heldL ⟨0, 4, 1, 0, ⟨#[0, 7, 1, 0, 9, 2]⟩, false⟩ = ([⟨7, 1⟩, ⟨9, 2⟩], 0) := mk_held (x := x0) (l := [⟨7, 1⟩, ⟨9, 2⟩]) rfl rfl
  have hr : rightS ⟨0, 4, 1, 0, ⟨#[0, 7, 1, 0, 9, 2]⟩, false⟩ = true := mk_right (x := x0) (l := [⟨7, 1⟩, ⟨9, 2⟩]) x0_right rfl rfl
  unfold speakA
  rw [if_neg (by rw [hr]; decide), if_neg (by decide), hh, if_neg (by simp)]
  rfl
set_option maxHeartbeats 8000000 in
theorem alive_any (w : World) : Calls Tryd.prog 9 #[] w fun r w' => r = .returned (.bool true) ∧ Below w.heap.size w w' := by
  have H1 := Lib.hid (fun W => ship_any ⟨0, 4, 1, 0, ⟨#[]⟩, false⟩ ⟨9, 2⟩ (by decide) W)
  have H2 := Lib.hid (fun W => ship_any ⟨0, 4, 1, 0, ⟨#[0, 9, 2]⟩, false⟩ ⟨7, 1⟩ (by decide) W)
  have H3 := Lib.hid (fun W => ship_any ⟨0, 4, 1, 0, ⟨#[0, 7, 1, 0, 9, 2]⟩, false⟩ ⟨7, 2⟩ (by decide) W)
  have H4 := Lib.hid (fun W => speak_any ⟨0, 4, 1, 0, ⟨#[0, 7, 1, 0, 9, 2]⟩, false⟩ 3 (by decide) W)
  have HE := Lib.hid (fun W => note_eq ⟨2, 3, 7, 4, 1, 0, 0, 0, 0, ⟨#[]⟩⟩ ⟨2, 3, 7, 4, 1, 0, 0, 0, 0, ⟨#[]⟩⟩ W)
  go_enter Tryd.func9, Tryd.ntmps9
  go_wp2_with fail
  refine (H1.out _).mono ?_
  rw [k1]
  rintro e w1 ⟨rfl, hb1⟩
  generalize hv0 : World.alloc w _ = v0 at hb1
  have S0 := six_new (x := ⟨0, 4, 1, 0, ⟨#[]⟩, false⟩) hv0
  have hB0 := (alloc_facts hv0).1
  clear hv0
  have S1 := S0.below hb1
  have hB1 := hB0.trans (hb1.mono hB0.size)
  clear S0 hB0 hb1
  have HS1 := Lib.hid S1
  obtain ⟨⟨a0, a1, a2, a3, a4, a5⟩, fa, hz⟩ := S1
  dsimp only at a0 a1 a2 a3 a4 a5
  go_wp2_with fail
  generalize hW : World.setCell _ _ _ = W
  obtain ⟨S2, hB2, hz2, _⟩ := six_set (y := ⟨0, 4, 1, 0, ⟨#[0, 9, 2]⟩, false⟩) HS1.out hW
  have hB2 := hB1.trans hB2
  clear hW HS1 hB1 hz a0 a1 a2 a3 a4 a5 fa
  refine (H2.out _).mono ?_
  rw [k2]
  rintro e w2 ⟨rfl, hb2⟩
  have S3 := S2.below hb2
  have hB3 := hB2.trans (hb2.mono hB2.size)
  clear S2 hB2 hb2 hz2
  have HS3 := Lib.hid S3
  obtain ⟨⟨a0, a1, a2, a3, a4, a5⟩, fa, hz⟩ := S3
  dsimp only at a0 a1 a2 a3 a4 a5
  go_wp2_with fail
  generalize hW : World.setCell _ _ _ = W2
  obtain ⟨S4, hB4, hz4, _⟩ := six_set (y := ⟨0, 4, 1, 0, ⟨#[0, 7, 1, 0, 9, 2]⟩, false⟩) HS3.out hW
  have hB4 := hB3.trans hB4
  clear hW HS3 hB3 hz a0 a1 a2 a3 a4 a5 fa
  refine (H3.out _).mono ?_
  rw [k3]
  rintro e w3 ⟨rfl, hb3⟩
  have S5 := S4.below hb3
  have hB5 := hB4.trans (hb3.mono hB4.size)
  clear S4 hB4 hb3 hz4
  have HS5 := Lib.hid S5
  obtain ⟨⟨a0, a1, a2, a3, a4, a5⟩, fa, hz⟩ := S5
  dsimp only at a0 a1 a2 a3 a4 a5
  go_wp2_with fail
  generalize hW : World.alloc w3 _ = W3
  obtain ⟨hb6, _, _⟩ := alloc_facts hW
  have S6 := HS5.out.below hb6
  have hB6 := hB5.trans (hb6.mono hB5.size)
  clear hW HS5 hB5 hz a0 a1 a2 a3 a4 a5 fa
  refine (H4.out _).mono ?_
  rw [k4]
  rintro e w4 ⟨v, rfl, ho, hb7⟩
  have S7 := S6.below hb7
  have hB7 := hB6.trans (hb7.mono hB6.size)
  clear S6 hB6 hb7 hb6
  obtain ⟨⟨a0, a1, a2, a3, a4, a5⟩, fa, hz⟩ := S7
  dsimp only at a0 a1 a2 a3 a4 a5
  obtain ⟨a, cap, rfl, _, _, hcc⟩ := own_not ho
  obtain ⟨g, off, rfl, hg, hd⟩ := hcc (by decide)
  obtain ⟨q0, q1, q2, q3, q4, q5, q6, q7, q8, q9⟩ := hd 0 (by decide)
  simp only [Nat.zero_mul, Nat.add_zero, List.getElem_cons_zero] at q0 q1 q2 q3 q4 q5 q6 q7 q8 q9
  clear hcc hd ho
  go_wp2_with fail
  go_ret
  exact ⟨rfl, hB7⟩
end Go.Proofs.YtajnaiofagppeaaDoor.AgentAlive
