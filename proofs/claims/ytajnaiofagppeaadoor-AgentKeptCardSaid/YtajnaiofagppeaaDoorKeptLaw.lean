/- What was shipped, in the map and in the cargo; and what becomes of the cargo where the agency goes. -/
import Derived.Test.YtajnaiofagppeaaDoorSpoken
import Derived.Test.YtajnaiofagppeaaDoorAnyLaw
import Derived.Test.YtajnaiofagppeaaDoorHandTop
namespace Go.Proofs.YtajnaiofagppeaaDoor.KeptLaw
open CodeSpec AgentSpec NoteSpec LeaseSpec HandSpec Ballot Collect Pack Held Search Ship Speak Spoken
set_option linter.unusedSimpArgs false
set_option linter.unusedVariables false
def Kp (L : List Ba) (f : Int → Option Value) (c : Nat) : Prop :=
  rightL L = true ∧ (∀ b ∈ L, f b.tx = some (.int .i64 b.vote)) ∧ (∀ t, f t ≠ none → ∃ b ∈ L, b.tx = t) ∧ c = L.length
theorem kp_none : Kp [] MapV.none_ 0 := ⟨rfl, fun b h => absurd h (by simp), fun t h => absurd rfl h, rfl⟩
theorem rising_uniq {L : List Ba} (h : Rising L) {a b : Ba} (ha : a ∈ L) (hb : b ∈ L) (he : a.tx = b.tx) : a = b := by
  obtain ⟨i, hi, rfl⟩ := List.getElem_of_mem ha
  obtain ⟨j, hj, rfl⟩ := List.getElem_of_mem hb
  rcases Nat.lt_trichotomy i j with k | k | k
  · have := h i j k hj; omega
  · subst k; rfl
  · have := h j i k hi; omega
theorem kp_put {L : List Ba} {f : Int → Option Value} {c : Nat} {b : Ba} (h : Kp L f c) (hb : mayB b = true) (h0 : (putL L b).2 = 0) :
    Kp (putL L b).1 (MapV.set f b.tx (.int .i64 b.vote)) (if (f b.tx).isSome then c else c + 1) := by
  obtain ⟨h1, h2, h3, h4⟩ := h
  obtain ⟨hin, hm⟩ := put_there h1 hb h0
  have hr := put_right h1 hb
  have hu := right_rising hr
  refine ⟨hr, fun a ha => ?_, fun t ht => ?_, ?_⟩
  · by_cases he : a.tx = b.tx
    · rw [rising_uniq hu ha hin he, MapV.set_same]
    · rw [MapV.set_other _ _ he]
      rcases (hm a).1 ha with rfl | ha
      · exact absurd rfl he
      · exact h2 a ha
  · by_cases he : t = b.tx
    · exact ⟨b, hin, he.symm⟩
    · rw [MapV.set_other _ _ he] at ht
      obtain ⟨a, ha, e⟩ := h3 t ht
      exact ⟨a, (hm a).2 (.inr ha), e⟩
  · have hr0 := right_rising h1
    unfold putL at h0 ⊢
    by_cases hat : isAt L b (posL L b) = true
    · obtain ⟨a, ha, he⟩ := (at_iff b hr0).1 hat
      have := h2 a ha
      rw [he] at this
      rw [if_pos hat, this, h4]
      rfl
    · rw [if_neg hat] at h0 ⊢
      have hn : f b.tx = none := by
        cases hf : f b.tx with
        | none => rfl
        | some u =>
          obtain ⟨a, ha, he⟩ := h3 b.tx (by rw [hf]; simp)
          exact absurd ((at_iff b hr0).2 ⟨a, ha, he⟩) hat
      rw [hn]
      split at h0
      · simp at h0
      · rename_i h50
        rw [if_neg h50]
        show _ = (Insert.insL L (posL L b) b).length
        rw [Insert.ins_len _ _ _ (pos_found b hr0).1, h4]
        rfl
theorem note_right {m ep : Int} (hm : m < 8) (h1 : 1 ≤ ep) (h2 : ep ≤ 1048576) {b : Ba} (hb : mayB b = true) : NoteSpec.rightB 2 m b.tx ep b.vote 0 0 0 0 ⟨#[]⟩ = true := by
  simp only [mayB, decide_eq_true_eq] at hb
  obtain ⟨h3, h4, h5⟩ := hb
  simp [NoteSpec.rightB, NoteSpec.noMsg, NoteSpec.epochB, ByteArray.toList_eq, hm, h1, h2, h3, h4, h5]
theorem wf1000 {x : Int} (h0 : 0 ≤ x) (h1 : x < 1000) : (Lit.int .i64 x).wf = true := by
  have e1 : IntKind.i64.min = -9223372036854775808 := rfl
  have e2 : IntKind.i64.max = 9223372036854775807 := rfl
  show (decide _ && decide _) = true
  rw [Bool.and_eq_true, decide_eq_true_eq, decide_eq_true_eq]
  omega
theorem told_of {L : List Ba} {f : Int → Option Value} {c : Nat} (h : Kp L f c) {m ep : Int} (hm : m < 8) (h1 : 1 ≤ ep) (h2 : ep ≤ 1048576)  : Spoken.Told f m ep (L.map (noteOf m ep)) := by
  obtain ⟨hr, hf, _, _⟩ := h
  refine ⟨fun i hi => ?_, fun i hi h0 => ?_⟩
  · rw [List.length_map] at hi
    rw [List.getElem_map]
    have hb := right_may hr _ (List.getElem_mem hi)
    have hw := hb
    simp only [mayB, decide_eq_true_eq] at hw
    exact ⟨rfl, rfl, rfl, hf _ (List.getElem_mem hi), wf1000 hw.1 hw.2.1, note_right hm h1 h2 hb⟩
  · rw [List.length_map] at hi
    rw [List.getElem_map, List.getElem_map]
    exact right_rising hr _ _ (by omega) hi
theorem speak_mk {x : S} {L : List Ba} {m : Int} (hr : rightS x = true) (hs : x.s = 1) (hl : rightL L = true) (hm : m < 8) : speakA (mkS x L) m = (L.map (noteOf m x.e), 0) := by
  unfold speakA
  rw [if_neg (by rw [mk_right hr hs hl]; decide), if_neg (by omega), mk_held hs hl, if_neg (by simp)]
  rfl
def cB (L : List Ba) : ByteArray := ⟨(bytesL L).toArray⟩
theorem cB_size {L : List Ba} (hl : rightL L = true) : (cB L).size ≤ 150 := by
  have h := right_len hl
  have e : (cB L).size = 3 * L.length := by
    rw [← bytes_len]
    show (bytesL L).toArray.size = _
    simp
  omega
def x1 (me n : Int) : S := ⟨me, n, 1, 0, ⟨#[]⟩, false⟩
theorem x1_right {me n : Int} (hm : me < 8) (h1 : 1 ≤ n) (h2 : n ≤ 1048576) : rightS (x1 me n) = true := by
  have : ¬ 8 ≤ me := by omega
  simp [x1, rightS, none_, LeaseSpec.rightB, LeaseSpec.epochB, ByteArray.toList_eq, ByteArray.size, h1, h2, this]
theorem want_all {n : Int} (h1 : 1 ≤ n) (h2 : n ≤ 65536) {L : List Ba} (hl : rightL L = true) :
    hearA ⟨1, n, 1, 0, cB L, false⟩ ⟨2, 2, 1, n, ⟨#[]⟩⟩ = (⟨1, n, 2, 2, cB L, true⟩, some ⟨3, 1, 2, n + 1, cB L⟩, 0) := by
  have hr : rightS ⟨1, n, 1, 0, cB L, false⟩ = true := mk_right (x := x1 1 n) (x1_right (by decide) h1 (by omega)) rfl hl
  have hm : mayM ⟨2, 2, 1, n, ⟨#[]⟩⟩ = true := by
    have k1 : ¬ n < 1 := by omega
    have k2 : ¬ 1048576 < n := by omega
    simp [mayM, none_, ByteArray.toList_eq, k1, k2]
  have hs : speaksB n 1 0 n = true := by
    have k2 : n ≤ 1048576 := by omega
    simp [speaksB, LeaseSpec.rightB, LeaseSpec.epochB, h1, k2]
  unfold hearA
  rw [if_neg (by rw [hr]; decide), if_neg (by rw [hm]; decide), if_neg (by simp)]
  unfold hearH
  rw [if_neg (by show ¬ (2 : Int) = 1; decide), if_pos rfl, if_neg (by simp), if_pos hs, if_neg (by show ¬ n = 1048576; omega)]
theorem give_all {n : Int} (h1 : 1 ≤ n) (h2 : n ≤ 65536) {L : List Ba} (hl : rightL L = true) :
    hearA ⟨2, 0, 0, 0, ⟨#[]⟩, false⟩ ⟨3, 1, 2, n + 1, cB L⟩ = (⟨2, n + 1, 1, 0, cB L, false⟩, some ⟨4, 2, 1, n + 1, ⟨#[]⟩⟩, 0) := by
  have hz := cB_size hl
  have hr : rightS ⟨2, 0, 0, 0, ⟨#[]⟩, false⟩ = true := by simp [rightS, none_, LeaseSpec.rightB, ByteArray.toList_eq, ByteArray.size]
  have hm : mayM ⟨3, 1, 2, n + 1, cB L⟩ = true := by
    have k1 : ¬ n + 1 < 1 := by omega
    have k2 : ¬ 1048576 < n + 1 := by omega
    have k3 : ((cB L).size : Int) ≤ 500 := by omega
    simp [mayM, k1, k2, k3]
  unfold hearA
  rw [if_neg (by rw [hr]; decide), if_neg (by rw [hm]; decide), if_neg (by simp)]
  unfold hearH
  rw [if_neg (by show ¬ (3 : Int) = 1; decide), if_neg (by show ¬ (3 : Int) = 2; decide), if_pos rfl, if_pos (by show (0 : Int) < n + 1; omega)]
  rfl
theorem gone_speaks {n : Int} (h1 : 1 ≤ n) (h2 : n ≤ 65536) {L : List Ba} (hl : rightL L = true) {m : Int} (hm : m < 8) : speakA ⟨1, n, 2, 2, cB L, true⟩ m = ([], 7) := by
  have hz := cB_size hl
  have k2 : n ≤ 1048576 := by omega
  have k3 : ¬ 500 < (cB L).size := by omega
  have hr : rightS ⟨1, n, 2, 2, cB L, true⟩ = true := by simp [rightS, LeaseSpec.rightB, LeaseSpec.epochB, h1, k2, k3]
  unfold speakA
  rw [if_neg (by rw [hr]; decide), if_neg (by omega)]
  have hh : heldL ⟨1, n, 2, 2, cB L, true⟩ = ([], 7) := by rw [heldL, if_pos (by show (2 : Int) ≠ 1; decide)]
  rw [hh, if_pos (by show (7 : Int) ≠ 0; decide)]
end Go.Proofs.YtajnaiofagppeaaDoor.KeptLaw
