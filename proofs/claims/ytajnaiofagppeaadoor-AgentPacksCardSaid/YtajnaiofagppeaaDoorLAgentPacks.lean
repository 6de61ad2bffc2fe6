/- The cargo of any ballots, and those of any cargo, are the document's, or refused; they belong together: for every ballots and every text the statement's call returns true. -/
import Derived.Test.YtajnaiofagppeaaDoorAgentAlive
import Derived.Test.YtajnaiofagppeaaDoorRefUnpack
import Derived.Test.YtajnaiofagppeaaDoorRowsBal
namespace Go.Proofs.YtajnaiofagppeaaDoor.LAgentPacks
open Go Go.RowKit CodeSpec AgentSpec NoteSpec LeaseSpec HandSpec Flat Ballot Collect Pack Held Ship Speak AgentSmall RowsBal RefPack Go.Proofs.YtajnaiofagppeaaDoorW.PrintLast
set_option linter.unusedSimpArgs false
set_option linter.unusedVariables false
set_option maxRecDepth 100000
theorem unpack_len (s : List UInt8) : (unpackL s).1.length ≤ 50 := by
  unfold unpackL
  split
  · simp
  · split
    · rename_i h
      have h2 := h.2
      simp only [rightL, Bool.and_eq_true, decide_eq_true_eq] at h2
      exact h2.2
    · simp
theorem pack_back {l : List Ba} (h : (packL l).2 = 0) : unpackL (packL l).1 = (l, 0) ∧ (packL l).1.length ≤ 150 := by
  unfold packL at h ⊢
  cases hr : rightL l with
  | false => rw [hr] at h; simp at h
  | true =>
    rw [if_neg (by decide)]
    exact ⟨unpack_pack hr, by have := right_len hr; show (bytesL l).length ≤ 150; rw [bytes_len]; omega⟩
set_option maxHeartbeats 4000000 in
theorem walk (a0 : Option Addr) (len0 cap0 : Nat) (r0 : List (List Value)) (a1 : ByteArray) (w : World) (w0 : IsRows [.int .i64, .int .i64] w a0 len0 cap0 r0) (w1 : a1.size ≤ maxLen) :
    Calls Tryd.prog 3 #[.slice a0 len0 cap0, .string a1] w fun e w' => e = .returned (.bool true) ∧ Below w.heap.size w w' := by
  obtain ⟨l, hll, hbal, _⟩ := rows_bal w0
  have hmax : len0 ≤ maxLen := Nat.le_trans w0.2.1 w0.2.2.1
  unfold maxLen at hmax
  subst hll
  clear w0
  by_cases hlen : 600 < l.length
  · have hlenI : (600 : Int) < (l.length : Int) := by omega
    go_enter Tryd.func3, Tryd.ntmps3
    go_wp2_with fail
    refine (AgentAlive.alive_any _).mono ?_
    rintro r v1 ⟨rfl, hb1⟩
    go_wp2_with fail
    go_ret
    exact ⟨rfl, hb1⟩
  have hlenI : ¬ (600 : Int) < (l.length : Int) := by omega
  by_cases hsz : 600 < a1.size
  · have hszI : (600 : Int) < (a1.size : Int) := by omega
    go_enter Tryd.func3, Tryd.ntmps3
    go_wp2_with fail
    refine (AgentAlive.alive_any _).mono ?_
    rintro r v1 ⟨rfl, hb1⟩
    go_wp2_with fail
    go_ret
    exact ⟨rfl, hb1⟩
  have hszI : ¬ (600 : Int) < (a1.size : Int) := by omega
  have HBAL := Lib.hid hbal
  have HPB := Lib.hid (fun h => pack_back (l := l) h)
  have HTH := Lib.hid (fun W h => theirs_any (.slice a0 l.length cap0) l (by omega) W h)
  have HP := Lib.hid (fun u W h => pack_any u l W h)
  have HRP := Lib.hid (fun W h => rpack_any (.slice a0 l.length cap0) l W h)
  have HU := Lib.hid (fun W => unpack_any a1 w1 W)
  have HRU := Lib.hid (fun W => runpack_any a1 (by omega) W)
  have hul := unpack_len a1.data.toList
  generalize packL l = P at *
  generalize unpackL a1.data.toList = U at *
  obtain ⟨P1, P2⟩ := P
  obtain ⟨U1, U2⟩ := U
  dsimp only at hul
  clear hbal
  go_enter Tryd.func3, Tryd.ntmps3
  go_wp2_with fail
  refine (AgentAlive.alive_any _).mono ?_
  rintro r v1 ⟨rfl, hb1⟩
  go_wp2_with fail
  refine (HTH.out _ (HBAL.out.below hb1)).mono ?_
  rintro r v2 ⟨u, rfl, ho2, hb2⟩
  have hB2 := hb1.trans (hb2.mono hb1.size)
  have hu := own_bal ho2
  clear hb1 hb2 ho2 HTH
  go_wp2_with fail
  refine (HP.out u _ hu).mono ?_
  rintro r v3 ⟨rfl, hb3⟩
  have hB3 := hB2.trans (hb3.mono hB2.size)
  clear hb3 hB2 hu HP
  go_wp2_with fail
  refine (HRP.out _ (HBAL.out.below hB3)).mono ?_
  rintro r v4 ⟨rfl, hb4⟩
  have hB4 := hB3.trans (hb4.mono hB3.size)
  clear hb4 hB3 HRP
  go_wp2_with fail
  refine (HU.out _).mono ?_
  rintro r v5 ⟨x5, rfl, ho5, hb5⟩
  have hB5 := hB4.trans (hb5.mono hB4.size)
  have hx5 := own_bal ho5
  clear hb5 hB4 ho5 HU
  go_wp2_with fail
  refine (HRU.out _).mono ?_
  rintro r v6 ⟨x6, rfl, ho6, hb6⟩
  have hB6 := hB5.trans (hb6.mono hB5.size)
  have hx5 := hx5.below hb6
  have hx6 := own_balT ho6
  clear hb6 hB5 ho6 HRU
  dsimp only at hx5 hx6 ⊢
  have HS := same_any x5 x6 U1 (by omega) v6 hx5 hx6
  clear hx5 hx6
  go_wp2_with fail
  refine HS.mono ?_
  rintro r v7 ⟨rfl, hb7⟩
  have hB7 := hB6.trans (hb7.mono hB6.size)
  clear hb7 hB6 HS
  by_cases h0 : P2 = 0
  · subst h0
    obtain ⟨hp1, hp2⟩ := HPB.out rfl
    try dsimp only at hp1 hp2
    have HU := unpack_any ⟨P1.toArray⟩ (by show P1.toArray.size ≤ _; unfold maxLen; simp; omega) v7
    rw [show (⟨P1.toArray⟩ : ByteArray).data.toList = P1 from rfl, hp1] at HU
    clear hp1 hp2 HPB
    go_wp2_with fail
    refine HU.mono ?_
    rintro r v8 ⟨x8, rfl, ho8, hb8⟩
    have hB8 := hB7.trans (hb8.mono hB7.size)
    have hx8 := own_bal ho8
    have HS := same_any x8 (.slice a0 l.length cap0) l (by omega) v8 hx8 (HBAL.out.below hB8)
    clear hb8 hB7 ho8 hx8 HU
    try dsimp only
    go_wp2_with fail
    refine HS.mono ?_
    rintro r v9 ⟨rfl, hb9⟩
    go_wp2_with fail
    go_ret
    exact ⟨by first | rfl | (simp [*]; done), hB8.trans (hb9.mono hB8.size)⟩
  · have hb0 : (P2 == 0) = false := beq_eq_false_iff_ne.2 h0
    clear HPB
    go_wp2_with fail
    go_ret
    exact ⟨by first | rfl | (simp [*]; done), hB7⟩
end Go.Proofs.YtajnaiofagppeaaDoor.LAgentPacks
